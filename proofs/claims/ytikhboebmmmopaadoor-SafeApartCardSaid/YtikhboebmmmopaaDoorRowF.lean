/-
  FOR THE ROWS OF LAWS THAT TAKE FIELDS: a row of structs of two texts, as the walks want it; what the reach and the bound give. Conditions: those in each statement.
-/
import Derived.Test.YtikhboebmmmopaaDoorRow
import Derived.Test.YtikhboebmmmopaaDoorFun0
import Derived.Deep.SlicePairs
namespace Go.Proofs.YtikhboebmmmopaaDoor.XRow
open Go.ChangeShapes Go.WideShapes Go.ChangeAt Go.RowKit Go.Deep
open Go.Proofs.YtikhboebmmmopaaDoorW.PrintWords
open Go.Proofs.YtikhboebmmmopaaDoor.Fun (S30 k30 k30_mk)

theorem reads_fields {W : World} {a : Addr} {l : List S30} (hm : l.length ≤ 9223372036854775807) (hc : ∀ i (h : i < l.length), W.cell? (a.add (i * 2)) = some (.string l[i].f0) ∧ W.cell? (a.add (i * 2 + 1)) = some (.string l[i].f1)) :
    k30.C W (some a) l.length l := by
  refine ⟨rfl, hm, fun _ => ⟨a, rfl, fun j p hp => ?_⟩⟩
  obtain ⟨hj, rfl⟩ := List.getElem?_eq_some_iff.1 hp
  refine ⟨[.string l[j].f0, .string l[j].f1], rfl, k30_mk W l[j], fun i u hu => ?_⟩
  match i, hu with
  | 0, hu => cases hu; exact (hc j hj).1
  | 1, hu => cases hu; exact (hc j hj).2

def dField {H : Type} (s : S30) : DataW H := .agg [.lit (.string s.f0.data.toList), .lit (.string s.f1.data.toList)]
section
variable {H : Type} {enc : TypeId × Value → H} {W : World} {v : Value} {d : DataW H} {ps : List MemPlace}
theorem open_fieldsC (hv : ∃ a len cap, v = .slice a len cap) (h : DataW.Trod enc Tryd.prog W 0 (fun _ => true) true 26 v d ps) :
    ∃ (A : Option Addr) (c : Nat) (l : List S30), v = .slice A l.length c ∧ k30.C W A l.length l ∧ l.length ≤ c ∧
      ((d = .nil ∧ l = []) ∨ ∃ spare : List (DataW H), d = .slice (l.map dField) spare) := by
  obtain ⟨fuel, hf⟩ := sliceCells h hv
  rcases open_slice_pairs Tryd.underlying26 Tryd.underlying30 (by kernel_rfl) rfl rfl (by kernel_rfl) (by kernel_rfl) hf with ⟨h0, hx⟩ | ⟨a, len, cap, m, n, V0, V1, D0, D1, P0, P1, h0, hb, hl, hm, hmm, hx, hcell⟩
  · obtain rfl : v = .slice none 0 0 := by simpa using h0
    refine ⟨none, 0, [], rfl, ?_, Nat.le_refl _, .inl ⟨congrArg Prod.fst hx, rfl⟩⟩
    exact ⟨rfl, Nat.zero_le _, fun hp => absurd hp (by simp)⟩
  · obtain rfl : v = .slice (some a) len cap := by simpa using h0
    have hlm : len ≤ m := by rw [hmm]; split <;> omega
    have each : ∀ i, i < m → ∃ s : S30, V0 i = .string s.f0 ∧ V1 i = .string s.f1 ∧ D0 i = .lit (.string s.f0.data.toList) ∧ D1 i = .lit (.string s.f1.data.toList) := by
      intro i hi
      obtain ⟨s0, e1, e2, _⟩ := DataW.trod_string (t := 9) Tryd.underlying9 (hcell i hi).2.2.1
      obtain ⟨s1, e3, e4, _⟩ := DataW.trod_string (t := 9) Tryd.underlying9 (hcell i hi).2.2.2
      simp only [Prod.mk.injEq] at e2 e4
      exact ⟨⟨s0, s1⟩, by simpa using e1, by simpa using e3, e2.1, e4.1⟩
    haveI : Inhabited S30 := ⟨⟨ByteArray.empty, ByteArray.empty⟩⟩
    obtain ⟨Sx, hS⟩ := choose_lt each
    have hll : ((List.range len).map Sx).length = len := by simp
    refine ⟨some a, cap, (List.range len).map Sx, by rw [hll], ?_, by rw [hll]; exact hl, .inr ⟨(List.range (m - len)).map fun j => .agg [D0 (len + j), D1 (len + j)], ?_⟩⟩
    · have hmx : len ≤ 9223372036854775807 := Nat.le_trans hl hm
      refine reads_fields (by rw [hll]; exact hmx) (fun i hi => ?_)
      rw [hll] at hi
      simp only [List.getElem_map, List.getElem_range]
      rw [← (hS i (by omega)).1, ← (hS i (by omega)).2.1]
      exact ⟨(hcell i (by omega)).1, (hcell i (by omega)).2.1⟩
    · have := congrArg Prod.fst hx
      simp only at this
      rw [this, List.map_map]
      congr 1
      refine List.map_congr_left fun i hi => ?_
      have hi' : i < m := by have := List.mem_range.1 hi; omega
      simp only [Function.comp_def, dField]
      rw [(hS i hi').2.2.1, (hS i hi').2.2.2]
end
section
variable {H : Type}
theorem fields_bulk {ds : List (DataW H)} (hk : Rows.uptoSmall H ds = true) {l : List S30} {d : DataW H} (hm : d ∈ ds)
    (hx : (d = .nil ∧ l = []) ∨ ∃ spare : List (DataW H), d = .slice (l.map dField) spare) : l.length ≤ 1048576 ∧ ∀ s ∈ l, s.f0.size ≤ 1048576 ∧ s.f1.size ≤ 1048576 := by
  have h1 := part_le hm
  have h2 := bound hk
  rcases hx with ⟨_, rfl⟩ | ⟨spare, rfl⟩
  · exact ⟨by simp, fun s hs => by cases hs⟩
  · simp only [Rows.uptoBulk] at h1
    refine ⟨?_, fun s hs => ?_⟩
    · have h3 := length_le (l.map (dField (H := H)))
      rw [List.length_map] at h3
      omega
    · have h3 := part_le (List.mem_map.2 ⟨s, hs, rfl⟩ : dField (H := H) s ∈ l.map dField)
      simp only [dField, Rows.uptoBulk, Rows.uptoBulkAll] at h3
      rw [Lib.size_eq, Lib.size_eq]
      omega
end
section
variable {H : Type}
theorem fields_reach {ts : List TypeId} {ds : List (DataW H)} (h : (DataW.weightsEach Tryd.prog ts ds).all (· ≤ reachBytes) = true) {j : Nat} {l : List S30} {d : DataW H} (ht : ts[j]? = some 26) (hd : ds[j]? = some d)
    (hx : (d = .nil ∧ l = []) ∨ ∃ spare : List (DataW H), d = .slice (l.map dField) spare) : ∀ s ∈ l, s.f0.size ≤ 140737488351232 ∧ s.f1.size ≤ 140737488351232 := by
  intro s hs
  rcases hx with ⟨_, rfl⟩ | ⟨spare, rfl⟩
  · cases hs
  · have h1 : dField (H := H) s ∈ l.map dField := List.mem_map.2 ⟨s, hs, rfl⟩
    have go : ∀ n, n ∈ (dField (H := H) s).weights Tryd.prog 30 → n ≤ 140737488351232 := by
      intro n hn
      have h2 := weightsAll_mem (P := Tryd.prog) (e := 30) h1 n hn
      have h3 := List.all_eq_true.1 h _ (DataW.weights_mem_each ht hd n (by simp only [DataW.weights, Tryd.underlying26, List.mem_cons, List.mem_append]; exact .inr (.inl h2)))
      have h4 : n ≤ reachBytes := by simpa using h3
      exact h4
    have e : (dField (H := H) s).weights Tryd.prog 30 = [s.f0.data.toList.length, s.f1.data.toList.length] := by
      simp [dField, DataW.weights, DataW.weightsEach, Tryd.underlying30]
    rw [e] at go
    rw [Lib.size_eq, Lib.size_eq]
    exact ⟨go _ (by simp), go _ (by simp)⟩
end
end Go.Proofs.YtikhboebmmmopaaDoor.XRow
