/-
  PLAIN LAWS: what the printed functions on rows of fields (values, Get, Split; of the reference: All, Get, Split) come to. Conditions: rounds enough; sizes as told.
-/
import Derived.Test.YtaabfmpoodjhjaaDoorPureRxB
namespace Go.Proofs.YtaabfmpoodjhjaaDoor.Fun
open Go.RowKit Go.Proofs.YtaabfmpoodjhjaaDoorW.PrintWords
open Go.Proofs.YtaabfmpoodjhjaaDoor.Ext (txt Big)

def sel (l : List S40) (name : List UInt8) : List ByteArray := (l.filter fun f => Plain.foldB f.f0.data.toList name).map (·.f1)
theorem sel_cons (f : S40) (l : List S40) (name : List UInt8) : sel (f :: l) name = (if Plain.foldB f.f0.data.toList name = true then [f.f1] else []) ++ sel l name := by
  unfold sel
  rw [List.filter_cons]
  split <;> simp
theorem sel_len (l : List S40) (name : List UInt8) : (sel l name).length ≤ l.length := by
  unfold sel
  rw [List.length_map]
  exact List.length_filter_le _ _
theorem sel_mem {l : List S40} {name : List UInt8} {v : ByteArray} (h : v ∈ sel l name) : ∃ f ∈ l, f.f1 = v := by
  unfold sel at h
  obtain ⟨f, hf, rfl⟩ := List.mem_map.1 h
  exact ⟨f, (List.mem_filter.1 hf).1, rfl⟩
theorem rd_F (l : List S40) (i : Nat) (h : i < l.length) : rd_T40 l (i : Int) = l[i] := by
  unfold rd_T40
  rw [Int.toNat_natCast, List.getD, List.getElem?_eq_getElem h]
  rfl
theorem rd_V (l : List ByteArray) (i : Nat) (h : i < l.length) : rdOf ByteArray.empty l (i : Int) = l[i] := by
  unfold rdOf
  rw [Int.toNat_natCast, List.getD, List.getElem?_eq_getElem h]
  rfl

theorem values_l0 (l : List S40) (a : ByteArray) (ha : a.size ≤ Big) (hs : ∀ f ∈ l, f.f0.size ≤ Big) (hl : l.length ≤ 1000000000000) (d : Nat) : ∀ (k i : Nat) (acc : List ByteArray), l.length - i = d → i ≤ l.length → d < k → acc.length ≤ i →
    field_values.l0 k a acc l (l.length : Int) (i : Int) = some (acc ++ sel (l.drop i) a.data.toList) := by
  induction d with
  | zero =>
    intro k i acc hd hi hk hacc
    obtain ⟨k, rfl⟩ : ∃ m, k = m + 1 := ⟨k - 1, by omega⟩
    simp only [field_values.l0]
    rw [if_neg (by omega), drop_end (by omega)]
    simp [sel]
  | succ d ih =>
    intro k i acc hd hi hk hacc
    obtain ⟨k, rfl⟩ : ∃ m, k = m + 1 := ⟨k - 1, by omega⟩
    have hli : i < l.length := by omega
    simp only [field_values.l0]
    rw [if_pos (by omega), if_pos (by omega), if_pos (by omega), rd_F l i hli, ffold _ _ (hs _ (List.getElem_mem hli)) ha, drop_cons hli, sel_cons]
    simp only [Option.bind_some]
    rw [wrap_in (by omega) (by omega), show ((i : Int) + 1) = ((i + 1 : Nat) : Int) from by omega]
    by_cases h : Plain.foldB l[i].f0.data.toList a.data.toList = true
    · rw [if_pos h, if_pos h, if_pos (by omega), ih k (i + 1) _ (by omega) (by omega) (by omega) (by rw [List.length_append]; simp only [List.length_cons, List.length_nil]; omega), List.append_assoc]
    · rw [if_neg h, if_neg h, ih k (i + 1) _ (by omega) (by omega) (by omega) (by omega), List.nil_append]
theorem values_f (l : List S40) (a : ByteArray) (ha : a.size ≤ Big) (hs : ∀ f ∈ l, f.f0.size ≤ Big) (hl : l.length ≤ 1000000000000) (k : Nat) (hk : l.length < k) : field_values.f k l a = some (sel l a.data.toList) := by
  unfold field_values.f
  rw [show (0 : Int) = ((0 : Nat) : Int) from rfl, values_l0 l a ha hs hl l.length k 0 [] (by omega) (by omega) hk (by simp)]
  simp
/-! ### joined -/
def joined (vs : List ByteArray) : List UInt8 := Ext.joinT vs ⟨#[44, 32]⟩
def glue : Bool → List ByteArray → List UInt8
  | _, [] => []
  | b, v :: r => (if b then [] else [44, 32]) ++ v.data.toList ++ glue false r
theorem glue_join : ∀ (vs : List ByteArray), glue true vs = joined vs
  | [] => rfl
  | [v] => by simp [glue, joined, Ext.joinT, Lib.join]
  | v :: w :: r => by
    have ih := glue_join (w :: r)
    have e : glue false (w :: r) = [44, 32] ++ glue true (w :: r) := by simp [glue]
    rw [glue, e, ih]
    simp [joined, Ext.joinT, Lib.join]
theorem glue_len (M : Nat) : ∀ (b : Bool) (vs : List ByteArray), (∀ v ∈ vs, v.size ≤ M) → (glue b vs).length ≤ vs.length * (M + 2)
  | _, [], _ => by simp [glue]
  | b, v :: r, h => by
    have ih := glue_len M false r (fun x hx => h x (List.mem_cons_of_mem _ hx))
    have h1 := h v (List.mem_cons_self ..)
    rw [← len_eq] at h1
    rw [glue, List.length_append, List.length_append, List.length_cons, Nat.add_mul]
    have h2 : (if b = true then ([] : List UInt8) else [44, 32]).length ≤ 2 := by split <;> simp
    omega
structure Fits (l : List S40) : Prop where
  len : l.length ≤ 1048576
  name : ∀ f ∈ l, f.f0.size ≤ 1048600
  value : ∀ f ∈ l, f.f1.size ≤ 1048577
theorem Fits.joined {l : List S40} (h : Fits l) (name : List UInt8) : (joined (sel l name)).length ≤ 1100000000000 := by
  rw [← glue_join]
  have h1 := glue_len 1048577 true (sel l name) (fun v hv => by obtain ⟨f, hf, rfl⟩ := sel_mem hv; exact h.value f hf)
  have h2 := sel_len l name
  have h3 := h.len
  have h4 : (sel l name).length * (1048577 + 2) ≤ 1048576 * (1048577 + 2) := Nat.mul_le_mul_right _ (by omega)
  omega
theorem Fits.big {l : List S40} (h : Fits l) : ∀ f ∈ l, f.f0.size ≤ Big := fun f hf => by have := h.name f hf; unfold Ext.Big; omega
theorem parts_le (l : List UInt8) : (Plain.parts l).length ≤ l.length + 1 := partsGo_len 0 [] l

theorem get_f {l : List S40} (h : Fits l) (a : ByteArray) (ha : a.size ≤ Big) (k : Nat) (hk : l.length < k) : field_Get.f k l a = some (txt (joined (sel l a.data.toList)), decide (0 < (sel l a.data.toList).length)) := by
  have h1 := h.len
  have h2 := sel_len l a.data.toList
  have h3 := h.joined a.data.toList
  unfold field_Get.f
  rw [values_f l a ha h.big (by omega) k hk]
  simp only [Option.bind_some]
  unfold Ext.strings_Join.f
  rw [if_pos ⟨by omega, by unfold joined at h3; omega⟩]
  simp only [Option.bind_some]
  congr 2
  exact decide_eq_decide.2 (by omega)
def splitP (l : List S40) (name : List UInt8) : List (List UInt8) := if 0 < (sel l name).length then Plain.parts (joined (sel l name)) else []
theorem split_f {l : List S40} (h : Fits l) (a : ByteArray) (ha : a.size ≤ Big) (k : Nat) (hk : 3000000000000 < k) : field_Split.f k l a = some ((splitP l a.data.toList).map txt, decide (0 < (sel l a.data.toList).length)) := by
  have h1 := h.len
  have h3 := h.joined a.data.toList
  have h4 := parts_le (joined (sel l a.data.toList))
  unfold field_Split.f splitP
  rw [get_f h a ha k (by omega)]
  simp only [Option.bind_some]
  by_cases h0 : 0 < (sel l a.data.toList).length
  · rw [decide_eq_true h0, if_pos rfl, if_pos h0, parts_f _ (by rw [Ext.txt_data]; omega) (by rw [Ext.txt_size]; omega) k (by rw [Ext.txt_size]; omega), Ext.txt_data]
    rfl
  · rw [decide_eq_false h0, if_neg (by decide), if_neg h0]
    rfl
end Go.Proofs.YtaabfmpoodjhjaaDoor.Fun
