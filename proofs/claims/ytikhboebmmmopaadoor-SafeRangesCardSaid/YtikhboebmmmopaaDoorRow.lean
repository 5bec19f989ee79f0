/-
  FOR THE ROWS OF THIS SEAT: what the rows' list of tables gives, a world for the witness, arguments that are rows of texts or of truths, what the bound gives. Conditions: those that stand in each.
-/
import Derived.Test.YtikhboebmmmopaaDoorCards
import Derived.Test.YtikhboebmmmopaaDoorTie
import Derived.Test.YtikhboebmmmopaaDoorExtA
import Derived.WalkKit
import Derived.ProofKit
import Derived.OpenShut
import Derived.ShutString
import Derived.ChangeOld
import Derived.Below
import Derived.Carry
import Derived.SizedLaws
import Derived.Deep.DeepHandedRow
import Derived.Deep.Strs
import Derived.Deep.Grids
import Derived.Lib.LaidTab
import Derived.Lib.LaidU8
namespace Go.Proofs.YtikhboebmmmopaaDoor.XRow
open Go.ChangeShapes Go.WideShapes Go.ChangeAt Go.RowKit Go.Deep
open Go.Proofs.YtikhboebmmmopaaDoorW.PrintWords

theorem own : ownKnob Tryd.prog.godebug = none := by kernel_rfl
theorem laidOut : laidOutB Tryd.prog = true := by kernel_rfl
def laid : List (String × DataW Unit) := [("unicode/utf8.acceptRanges", Rows.laid_unicode_utf8_acceptRanges), ("unicode/utf8.first", Rows.laid_unicode_utf8_first)]
theorem extra : U8Extra Tryd.prog Tryd.lays260_ren :=
  { n3 := by kernel_rfl, n4 := by kernel_rfl, y3 := by kernel_rfl, y4 := by kernel_rfl, c5 := by kernel_rfl, c119 := by kernel_rfl, c138 := by kernel_rfl }
theorem first_eq : Rows.laid_unicode_utf8_first = Lib.firstData := by kernel_rfl
theorem accept_eq : (Rows.laid_unicode_utf8_acceptRanges : DataW Unit) = Lib.acceptData := by kernel_rfl
theorem plainList : laid.filter (fun x => x.2.handleName?.isSome) = [] := by kernel_rfl
theorem met {W : World} (h : laidMetH Tryd.prog laid W) : laidMet Tryd.prog laid W := by
  unfold laidMetH at h
  rw [plainList] at h
  exact h
/-- the tables, as the walks want them -/
theorem tabs {W : World} (h : laidMetH Tryd.prog laid W) : Ext.Tabs W := by
  have h' := met h
  have h3 : Lib.VarReads Tryd.prog W "unicode/utf8.first" Rows.laid_unicode_utf8_first := Lib.laidMet.reads h' (List.mem_cons_of_mem _ List.mem_cons_self)
  have h4 : Lib.VarReads Tryd.prog W "unicode/utf8.acceptRanges" Rows.laid_unicode_utf8_acceptRanges := Lib.laidMet.reads h' List.mem_cons_self
  rw [first_eq] at h3
  rw [accept_eq] at h4
  exact utf8Tabs_of_reads Tryd.lays260 extra h3 h4

/-- A WORLD FOR THE WITNESS: the settled one, the two tables holding what their initialisers lay. -/
def firstCells : Array Value := (Lib.firstTab.map fun z => Value.int .u8 z).toArray
def acceptCells : Array Value := ((List.range 16).flatMap fun i => [Value.int .u8 (Lib.accLo i : Int), Value.int .u8 (Lib.accHi i : Int)]).toArray
def put (cs : Array Value) : Obj → Obj
  | .cells _ t frozen => .cells cs t frozen
  | o => o
noncomputable def laidWorld (os : Os) : World :=
  { World.holding Tryd.prog os ⟨#[], #[], []⟩ with heap := ((World.holding Tryd.prog os ⟨#[], #[], []⟩).heap.modify 1 (put firstCells)).modify 2 (put acceptCells) }

/-! ### arguments that are rows -/
section
variable {H : Type} {enc : TypeId × Value → H} {P : Program} {W : World} {t e : TypeId} {v : Value} {d : DataW H} {ps : List MemPlace}
theorem sliceCells (h : DataW.Trod enc P W 0 (fun _ => true) true t v d ps) (hv : ∃ a len cap, v = .slice a len cap) : ∃ fuel, DataW.trod enc P W 0 (fun _ => true) true fuel t [v] = some (d, ps) := by
  obtain ⟨a, len, cap, rfl⟩ := hv
  exact h
theorem rowOf {α : Type} {en : α → Value} {dd : α} {h1 : ∀ x, (en x).oneCell' = true} {a : Addr} {len : Nat} {l : List α} (hl : l.length = len) (hm : len ≤ maxLen) (hc : ∀ i, i < len → W.cell? (a.add i) = some (en (l.getD i dd))) : (Kd.scalar en h1).C W (some a) l.length l := by
  have hm' : len ≤ 9223372036854775807 := hm
  exact Kd.C_of_reads ⟨rfl, by omega, fun _ => ⟨a, rfl, fun j hj => hc j (by omega)⟩⟩
/-- a row of texts -/
theorem open_strsC (ht : P.underlying t = some (.slice e)) (he : P.underlying e = some .string) (hc : P.cellsOf e = 1) (hv : ∃ a len cap, v = .slice a len cap) (h : DataW.Trod enc P W 0 (fun _ => true) true t v d ps) :
    ∃ (A : Option Addr) (c : Nat) (l : List ByteArray), v = .slice A l.length c ∧ Kd.string.C W A l.length l ∧ l.length ≤ c ∧
      ((d = .nil ∧ l = []) ∨ ∃ spare : List (DataW H), d = .slice (l.map fun s => .lit (.string s.data.toList)) spare) := by
  obtain ⟨fuel, hf⟩ := sliceCells h hv
  rcases open_strs ht he hc hf with ⟨h0, hx⟩ | ⟨a, len, cap, m, Sx, h0, hb, hl, hm, hmm, hx, hcell⟩
  · obtain rfl : v = .slice none 0 0 := by simpa using h0
    refine ⟨none, 0, [], rfl, ?_, Nat.le_refl _, .inl ⟨congrArg Prod.fst hx, rfl⟩⟩
    exact Kd.C_of_reads (d := ByteArray.empty) ⟨rfl, Nat.zero_le _, fun hp => absurd hp (by simp)⟩
  · obtain rfl : v = .slice (some a) len cap := by simpa using h0
    have hlm : len ≤ m := by rw [hmm]; split <;> omega
    have hll : ((List.range len).map Sx).length = len := by simp
    refine ⟨some a, cap, (List.range len).map Sx, by rw [hll], ?_, by rw [hll]; exact hl, .inr ⟨(List.range (m - len)).map fun j => .lit (.string (Sx (len + j)).data.toList), ?_⟩⟩
    · refine rowOf (dd := ByteArray.empty) hll (Nat.le_trans hl hm) (fun i hi => ?_)
      have e1 : ((List.range len).map Sx).getD i ByteArray.empty = Sx i := by simp [List.getD_eq_getElem?_getD, hi]
      rw [e1]
      exact (hcell i (by omega)).1
    · have := congrArg Prod.fst hx
      simpa [List.map_map, Function.comp_def] using this
/-- a row of truths -/
theorem open_boolsC (ht : P.underlying t = some (.slice e)) (he : P.underlying e = some .bool) (hc : P.cellsOf e = 1) (hv : ∃ a len cap, v = .slice a len cap) (h : DataW.Trod enc P W 0 (fun _ => true) true t v d ps) :
    ∃ (A : Option Addr) (c : Nat) (l : List Bool), v = .slice A l.length c ∧ Kd.bool.C W A l.length l ∧ l.length ≤ c := by
  obtain ⟨fuel, hf⟩ := sliceCells h hv
  rcases open_bools ht he hc hf with ⟨h0, hx⟩ | ⟨a, len, cap, B, h0, hb, hl, hm, hx, hcell⟩
  · obtain rfl : v = .slice none 0 0 := by simpa using h0
    refine ⟨none, 0, [], rfl, ?_, Nat.le_refl _⟩
    exact Kd.C_of_reads (d := false) ⟨rfl, Nat.zero_le _, fun hp => absurd hp (by simp)⟩
  · obtain rfl : v = .slice (some a) len cap := by simpa using h0
    have hll : ((List.range len).map B).length = len := by simp
    refine ⟨some a, cap, (List.range len).map B, by rw [hll], ?_, by rw [hll]; exact hl⟩
    refine rowOf (dd := false) hll (Nat.le_trans hl hm) (fun i hi => ?_)
    have e1 : ((List.range len).map B).getD i false = B i := by simp [List.getD_eq_getElem?_getD, hi]
    rw [e1]
    exact hcell i (by omega)
theorem trod_lt (h : DataW.Trod enc P W 0 (fun _ => true) true t v d ps) : ∀ x ∈ ps, x.block < W.heap.size := by
  obtain ⟨m, hm⟩ := h
  exact DataW.trod_lt m _ _ _ hm
end

/-! ### what the reach gives -/
section
variable {H : Type} {P : Program} {ts : List TypeId} {ds : List (DataW H)}
theorem weightsAll_mem {e : TypeId} : ∀ {l : List (DataW H)} {x : DataW H}, x ∈ l → ∀ n ∈ x.weights P e, n ∈ DataW.weightsAll P e l
  | y :: r, x, hx, n, hn => by
    simp only [DataW.weightsAll, List.mem_append]
    rcases List.mem_cons.1 hx with rfl | hx
    · exact .inl hn
    · exact .inr (weightsAll_mem hx n hn)
theorem strs_reach (h : (DataW.weightsEach P ts ds).all (· ≤ reachBytes) = true) {j : Nat} {t e : TypeId} {l : List ByteArray} {d : DataW H} (ht : ts[j]? = some t) (hd : ds[j]? = some d) (hu : P.underlying t = some (.slice e))
    (hx : (d = .nil ∧ l = []) ∨ ∃ spare : List (DataW H), d = .slice (l.map fun s => .lit (.string s.data.toList)) spare) : ∀ s ∈ l, s.size ≤ 140737488351232 := by
  intro s hs
  rcases hx with ⟨_, rfl⟩ | ⟨spare, rfl⟩
  · cases hs
  · have h1 : (DataW.lit (.string s.data.toList) : DataW H) ∈ l.map fun s => .lit (.string s.data.toList) := List.mem_map.2 ⟨s, hs, rfl⟩
    have h2 := weightsAll_mem (P := P) (e := e) h1 s.data.toList.length (by simp [DataW.weights])
    have h3 := List.all_eq_true.1 h _ (DataW.weights_mem_each ht hd s.data.toList.length (by simp only [DataW.weights, hu, List.mem_cons, List.mem_append]; exact .inr (.inl h2)))
    have h4 : s.data.toList.length ≤ reachBytes := by simpa using h3
    rw [Lib.size_eq]
    exact h4
end

/-! ### what the bound gives -/
section
theorem one_le {H : Type} (d : DataW H) : 1 ≤ Rows.uptoBulk d := by
  cases d with
  | lit l => cases l <;> simp [Rows.uptoBulk]
  | nil => simp [Rows.uptoBulk]
  | ptr d => simp [Rows.uptoBulk]
  | slice elems spare => simp [Rows.uptoBulk]
  | agg parts => simp [Rows.uptoBulk]
  | iface t d => simp [Rows.uptoBulk]
  | map entries => simp [Rows.uptoBulk]
  | held h => simp [Rows.uptoBulk]
theorem part_le {H : Type} {d : DataW H} {l : List (DataW H)} (h : d ∈ l) : Rows.uptoBulk d ≤ Rows.uptoBulkAll l := by
  induction l with
  | nil => cases h
  | cons x r ih =>
    simp only [Rows.uptoBulkAll]
    rcases List.mem_cons.1 h with rfl | h
    · omega
    · have := ih h; omega
theorem length_le {H : Type} (l : List (DataW H)) : l.length ≤ Rows.uptoBulkAll l := by
  induction l with
  | nil => simp [Rows.uptoBulkAll]
  | cons x r ih => have := one_le x; simp only [Rows.uptoBulkAll, List.length_cons]; omega
theorem bound {H : Type} {l : List (DataW H)} (hk : Rows.uptoSmall H l = true) : Rows.uptoBulkAll l ≤ 1048576 := of_decide_eq_true hk
theorem str_bulk {H : Type} {l : List (DataW H)} (hk : Rows.uptoSmall H l = true) {s : ByteArray} (hm : (DataW.lit (.string s.data.toList) : DataW H) ∈ l) : s.size ≤ 1048576 := by
  have h1 := part_le hm
  have h2 := bound hk
  simp only [Rows.uptoBulk] at h1
  rw [Lib.size_eq]
  omega
theorem strs_bulk {H : Type} {ds : List (DataW H)} (hk : Rows.uptoSmall H ds = true) {l : List ByteArray} {d : DataW H} (hm : d ∈ ds)
    (hx : (d = .nil ∧ l = []) ∨ ∃ spare : List (DataW H), d = .slice (l.map fun s => .lit (.string s.data.toList)) spare) : l.length ≤ 1048576 ∧ ∀ s ∈ l, s.size ≤ 1048576 := by
  have h1 := part_le hm
  have h2 := bound hk
  rcases hx with ⟨_, rfl⟩ | ⟨spare, rfl⟩
  · exact ⟨by simp, fun s hs => by cases hs⟩
  · simp only [Rows.uptoBulk] at h1
    refine ⟨?_, fun s hs => ?_⟩
    · have h3 := length_le (l.map fun s => (DataW.lit (.string s.data.toList) : DataW H))
      rw [List.length_map] at h3
      omega
    · have h3 := part_le (List.mem_map.2 ⟨s, hs, rfl⟩ : (DataW.lit (.string s.data.toList) : DataW H) ∈ l.map fun s => .lit (.string s.data.toList))
      simp only [Rows.uptoBulk] at h3
      rw [Lib.size_eq]
      omega
end
end Go.Proofs.YtikhboebmmmopaaDoor.XRow
