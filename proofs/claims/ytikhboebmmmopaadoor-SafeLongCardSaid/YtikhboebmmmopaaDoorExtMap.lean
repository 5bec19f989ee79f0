/-
  CONTRACTS, proved by hand: safe.without, safe.values: the map of five function values that it makes; a store into it and a look-up run concretely. Conditions: those in each statement.
-/
import Derived.Test.YtikhboebmmmopaaDoorProg
import Derived.Test.YtikhboebmmmopaaDoorWWords
import Derived.WalkKit
import Derived.LoopTactic
import Derived.RangeFuncRecord
import Derived.MapKept
namespace Go.Proofs.YtikhboebmmmopaaDoor.Ext
open Go.RowKit Go.Proofs.YtikhboebmmmopaaDoorW.PrintWords
set_option maxRecDepth 100000 in
theorem run_put (W : World) (B : Nat) (es : Array MapEntry) (clock : Nat) (k : ByteArray) (v : Value) (h : W.heap[B]? = some (.map es clock)) (hk : Instr.findNow .string (.string k) es.toList 0 = some none) :
    (Instr.mapUpdate 40 (.map (some B)) (.string k) v).run Tryd.prog W = .ok () (W.putObj B (.map (es.push { key := .string k, val := v, born := clock }) (clock + 1))) := by
  have u40 := run_underlying Tryd.underlying40
  have hc : (Instr.checkKey false 10000 9 (.string k)).run Tryd.prog W = .ok () W := Go.MapKept.run_checkKey (n := 9999) (k := .string k) Tryd.underlying9 (by simp [MapKept.IsKey]) false
  have hf : (Instr.findKey 9 (.string k) es.toList).run Tryd.prog W = .ok none W := Go.MapKept.run_findKey Tryd.underlying9 hk
  have hg : (getObj B).run Tryd.prog W = .ok (.map es clock) W := by simp [getObj, Sem.run, h]
  have hs : ∀ o, (setObj B o).run Tryd.prog W = .ok () (W.putObj B o) := fun o => by simp [setObj, Sem.run, h, World.putObj]
  unfold Instr.mapUpdate
  simp [Sem.run_bind, u40, hg, hc, hf, hs, Result.andThen]
set_option maxRecDepth 100000 in
theorem run_look (W : World) (B : Nat) (es : Array MapEntry) (clock : Nat) (k : ByteArray) (r : Option (Nat × Value)) (h : W.heap[B]? = some (.map es clock)) (hk : Instr.findNow .string (.string k) es.toList 0 = some r) :
    (Instr.lookup 40 (.map (some B)) (.string k) true).run Tryd.prog W = .ok (.tuple #[match r with | some x => x.2 | none => .nilFunc, .bool r.isSome]) W := by
  have u40 := run_underlying Tryd.underlying40
  have hz : (zeroValue 24).run Tryd.prog W = .ok .nilFunc W := Tryd.zeroValue24 W
  have hc : ∀ b, (Instr.checkKey b 10000 9 (.string k)).run Tryd.prog W = .ok () W := fun b => Go.MapKept.run_checkKey (n := 9999) (k := .string k) Tryd.underlying9 (by simp [MapKept.IsKey]) b
  have hf : (Instr.findKey 9 (.string k) es.toList).run Tryd.prog W = .ok r W := Go.MapKept.run_findKey Tryd.underlying9 hk
  have hg : (getObj B).run Tryd.prog W = .ok (.map es clock) W := by simp [getObj, Sem.run, h]
  unfold Instr.lookup
  cases r <;> simp [Sem.run_bind, u40, hg, hc, hf, hz, Result.andThen]
theorem without_any (g : Nat) (w : World) :
    Calls Tryd.prog 28 #[.func (.func g) #[] #[]] w fun e w' => e = .returned (.func (.func 37) #[] #[.pointer (some ⟨w.heap.size, 0, none⟩)]) ∧ w' = w.alloc (.cells #[.func (.func g) #[] #[]] 46) := by
  go_enter Tryd.func28, Tryd.ntmps28
  go_wp2
  go_ret
  exact ⟨rfl, rfl⟩
theorem put_same (W : World) (B : Nat) (o o' : Obj) (h : W.heap[B]? = some o) : (W.putObj B o').heap[B]? = some o' := by
  have hlt : B < W.heap.size := (Array.getElem?_eq_some_iff.1 h).1
  simp [World.putObj, hlt]
theorem put_other (W : World) (B k : Nat) (o' : Obj) (h : k ≠ B) : (W.putObj B o').heap[k]? = W.heap[k]? := by
  simp [World.putObj, Ne.symm h]
theorem below_put {b : Nat} {w W : World} (h : Below b w W) {B : Nat} (hB : b ≤ B) (o : Obj) : Below b w (W.putObj B o) :=
  ⟨h.os, h.tape, h.output, by simpa [World.putObj] using h.size, fun k hk => (put_other W B k o (by omega)).trans (h.block k hk)⟩
def entries (w : World) : Array MapEntry := #[{ key := .string ⟨#[97, 99, 99, 101, 112, 116]⟩, val := Value.func (Fn.func 37) #[] #[.pointer (some ⟨w.heap.size + 1 + 1, 0, none⟩)], born := 0 }, { key := .string ⟨#[97, 99, 99, 101, 112, 116, 45, 108, 97, 110, 103, 117, 97, 103, 101]⟩, val := Value.func (Fn.func 37) #[] #[.pointer (some ⟨w.heap.size, 0, none⟩)], born := 1 }, { key := .string ⟨#[99, 111, 110, 116, 101, 110, 116, 45, 108, 97, 110, 103, 117, 97, 103, 101]⟩, val := Value.func (Fn.func 37) #[] #[.pointer (some ⟨w.heap.size, 0, none⟩)], born := 2 }, { key := .string ⟨#[99, 111, 110, 116, 101, 110, 116, 45, 116, 121, 112, 101]⟩, val := Value.func (Fn.func 31) #[] #[], born := 3 }, { key := .string ⟨#[114, 97, 110, 103, 101]⟩, val := Value.func (Fn.func 32) #[] #[], born := 4 }]
set_option maxRecDepth 100000 in
theorem values_any (w : World) :
    Calls Tryd.prog 22 #[] w fun e w' => e = .returned (.map (some (w.heap.size + 1))) ∧ w'.heap[w.heap.size + 1]? = some (.map (entries w) 5) ∧ w'.heap[w.heap.size]? = some (.cells #[Value.func (Fn.func 29) #[] #[]] 46 (0, 0)) ∧ w'.heap[w.heap.size + 1 + 1]? = some (.cells #[Value.func (Fn.func 30) #[] #[]] 46 (0, 0)) ∧ Below w.heap.size w w' := by
  have hmm := @run_makeMap Tryd.prog
  go_enter Tryd.func22, Tryd.ntmps22
  go_wp2_with fail
  refine (without_any _ _).mono ?_
  rintro e w1 ⟨rfl, rfl⟩
  go_wp2_with fail
  refine (without_any _ _).mono ?_
  rintro e w1 ⟨rfl, rfl⟩
  go_wp2_with fail
  obtain ⟨W0, hW0⟩ : ∃ W, W = ((w.alloc (Obj.cells #[Value.func (Fn.func 29) #[] #[]] 46)).alloc (Obj.map #[] 0)).alloc (Obj.cells #[Value.func (Fn.func 30) #[] #[]] 46) := ⟨_, rfl⟩
  rw [← hW0]
  have hB0 : W0.heap[w.heap.size + 1]? = some (.map #[] 0) := by
    rw [hW0]
    refine (Below.heap_alloc _ _ _ (by simp)).trans ?_
    have := World.alloc_heap_new (w.alloc (Obj.cells #[Value.func (Fn.func 29) #[] #[]] 46)) (Obj.map #[] 0)
    rwa [World.size_alloc] at this
  have hu0 : W0.heap[w.heap.size]? = some (.cells #[Value.func (Fn.func 29) #[] #[]] 46 (0, 0)) := by
    rw [hW0]
    exact (Below.heap_alloc _ _ _ (by simp; omega)).trans ((Below.heap_alloc _ _ _ (by simp)).trans (World.alloc_heap_new w _))
  have ho0 : W0.heap[w.heap.size + 1 + 1]? = some (.cells #[Value.func (Fn.func 30) #[] #[]] 46 (0, 0)) := by
    rw [hW0]
    have := World.alloc_heap_new ((w.alloc (Obj.cells #[Value.func (Fn.func 29) #[] #[]] 46)).alloc (Obj.map #[] 0)) (Obj.cells #[Value.func (Fn.func 30) #[] #[]] 46)
    rwa [World.size_alloc, World.size_alloc] at this
  have hb0 : Below w.heap.size w W0 := by
    rw [hW0]
    exact (((Below.refl _ w).alloc (Nat.le_refl _) _).alloc (by simp) _).alloc (by simp; omega) _
  have HU0 := Aside0.mk hu0
  have HO0 := Aside0.mk ho0
  have HB0 := Aside0.mk hb0
  clear hW0 hu0 ho0 hb0
  have hp0 := run_put W0 (w.heap.size + 1) #[] 0 ⟨#[97, 99, 99, 101, 112, 116]⟩ (Value.func (Fn.func 37) #[] #[.pointer (some ⟨w.heap.size + 1 + 1, 0, none⟩)]) hB0 (by rfl)
  obtain ⟨W1, hW1⟩ : ∃ W, W = W0.putObj (w.heap.size + 1) (.map #[{ key := .string ⟨#[97, 99, 99, 101, 112, 116]⟩, val := Value.func (Fn.func 37) #[] #[.pointer (some ⟨w.heap.size + 1 + 1, 0, none⟩)], born := 0 }] 1) := ⟨_, rfl⟩
  have hB1 : W1.heap[w.heap.size + 1]? = some (.map #[{ key := .string ⟨#[97, 99, 99, 101, 112, 116]⟩, val := Value.func (Fn.func 37) #[] #[.pointer (some ⟨w.heap.size + 1 + 1, 0, none⟩)], born := 0 }] 1) := by rw [hW1]; exact put_same _ _ _ _ hB0
  replace hp0 : (Instr.mapUpdate 40 (.map (some (w.heap.size + 1))) (.string ⟨#[97, 99, 99, 101, 112, 116]⟩) (Value.func (Fn.func 37) #[] #[.pointer (some ⟨w.heap.size + 1 + 1, 0, none⟩)])).run Tryd.prog W0 = .ok () W1 := by rw [hW1]; exact hp0
  have HU1 := Aside0.mk (show W1.heap[w.heap.size]? = some (.cells #[Value.func (Fn.func 29) #[] #[]] 46 (0, 0)) by rw [hW1, put_other _ _ _ _ (by omega)]; exact HU0.out)
  have HO1 := Aside0.mk (show W1.heap[w.heap.size + 1 + 1]? = some (.cells #[Value.func (Fn.func 30) #[] #[]] 46 (0, 0)) by rw [hW1, put_other _ _ _ _ (by omega)]; exact HO0.out)
  have HB1 := Aside0.mk (show Below w.heap.size w W1 by rw [hW1]; exact below_put HB0.out (by omega) _)
  clear hW1 HU0 HO0 HB0
  rw [hp0]
  simp only [Result.andThen]
  rw [Oper.upon_skip]
  clear hp0
  go_wp2_with fail
  have hp1 := run_put W1 (w.heap.size + 1) #[{ key := .string ⟨#[97, 99, 99, 101, 112, 116]⟩, val := Value.func (Fn.func 37) #[] #[.pointer (some ⟨w.heap.size + 1 + 1, 0, none⟩)], born := 0 }] 1 ⟨#[97, 99, 99, 101, 112, 116, 45, 108, 97, 110, 103, 117, 97, 103, 101]⟩ (Value.func (Fn.func 37) #[] #[.pointer (some ⟨w.heap.size, 0, none⟩)]) hB1 (by rfl)
  obtain ⟨W2, hW2⟩ : ∃ W, W = W1.putObj (w.heap.size + 1) (.map #[{ key := .string ⟨#[97, 99, 99, 101, 112, 116]⟩, val := Value.func (Fn.func 37) #[] #[.pointer (some ⟨w.heap.size + 1 + 1, 0, none⟩)], born := 0 }, { key := .string ⟨#[97, 99, 99, 101, 112, 116, 45, 108, 97, 110, 103, 117, 97, 103, 101]⟩, val := Value.func (Fn.func 37) #[] #[.pointer (some ⟨w.heap.size, 0, none⟩)], born := 1 }] 2) := ⟨_, rfl⟩
  have hB2 : W2.heap[w.heap.size + 1]? = some (.map #[{ key := .string ⟨#[97, 99, 99, 101, 112, 116]⟩, val := Value.func (Fn.func 37) #[] #[.pointer (some ⟨w.heap.size + 1 + 1, 0, none⟩)], born := 0 }, { key := .string ⟨#[97, 99, 99, 101, 112, 116, 45, 108, 97, 110, 103, 117, 97, 103, 101]⟩, val := Value.func (Fn.func 37) #[] #[.pointer (some ⟨w.heap.size, 0, none⟩)], born := 1 }] 2) := by rw [hW2]; exact put_same _ _ _ _ hB1
  replace hp1 : (Instr.mapUpdate 40 (.map (some (w.heap.size + 1))) (.string ⟨#[97, 99, 99, 101, 112, 116, 45, 108, 97, 110, 103, 117, 97, 103, 101]⟩) (Value.func (Fn.func 37) #[] #[.pointer (some ⟨w.heap.size, 0, none⟩)])).run Tryd.prog W1 = .ok () W2 := by rw [hW2]; exact hp1
  have HU2 := Aside0.mk (show W2.heap[w.heap.size]? = some (.cells #[Value.func (Fn.func 29) #[] #[]] 46 (0, 0)) by rw [hW2, put_other _ _ _ _ (by omega)]; exact HU1.out)
  have HO2 := Aside0.mk (show W2.heap[w.heap.size + 1 + 1]? = some (.cells #[Value.func (Fn.func 30) #[] #[]] 46 (0, 0)) by rw [hW2, put_other _ _ _ _ (by omega)]; exact HO1.out)
  have HB2 := Aside0.mk (show Below w.heap.size w W2 by rw [hW2]; exact below_put HB1.out (by omega) _)
  clear hW2 HU1 HO1 HB1
  rw [hp1]
  simp only [Result.andThen]
  rw [Oper.upon_skip]
  clear hp1
  go_wp2_with fail
  have hp2 := run_put W2 (w.heap.size + 1) #[{ key := .string ⟨#[97, 99, 99, 101, 112, 116]⟩, val := Value.func (Fn.func 37) #[] #[.pointer (some ⟨w.heap.size + 1 + 1, 0, none⟩)], born := 0 }, { key := .string ⟨#[97, 99, 99, 101, 112, 116, 45, 108, 97, 110, 103, 117, 97, 103, 101]⟩, val := Value.func (Fn.func 37) #[] #[.pointer (some ⟨w.heap.size, 0, none⟩)], born := 1 }] 2 ⟨#[99, 111, 110, 116, 101, 110, 116, 45, 108, 97, 110, 103, 117, 97, 103, 101]⟩ (Value.func (Fn.func 37) #[] #[.pointer (some ⟨w.heap.size, 0, none⟩)]) hB2 (by rfl)
  obtain ⟨W3, hW3⟩ : ∃ W, W = W2.putObj (w.heap.size + 1) (.map #[{ key := .string ⟨#[97, 99, 99, 101, 112, 116]⟩, val := Value.func (Fn.func 37) #[] #[.pointer (some ⟨w.heap.size + 1 + 1, 0, none⟩)], born := 0 }, { key := .string ⟨#[97, 99, 99, 101, 112, 116, 45, 108, 97, 110, 103, 117, 97, 103, 101]⟩, val := Value.func (Fn.func 37) #[] #[.pointer (some ⟨w.heap.size, 0, none⟩)], born := 1 }, { key := .string ⟨#[99, 111, 110, 116, 101, 110, 116, 45, 108, 97, 110, 103, 117, 97, 103, 101]⟩, val := Value.func (Fn.func 37) #[] #[.pointer (some ⟨w.heap.size, 0, none⟩)], born := 2 }] 3) := ⟨_, rfl⟩
  have hB3 : W3.heap[w.heap.size + 1]? = some (.map #[{ key := .string ⟨#[97, 99, 99, 101, 112, 116]⟩, val := Value.func (Fn.func 37) #[] #[.pointer (some ⟨w.heap.size + 1 + 1, 0, none⟩)], born := 0 }, { key := .string ⟨#[97, 99, 99, 101, 112, 116, 45, 108, 97, 110, 103, 117, 97, 103, 101]⟩, val := Value.func (Fn.func 37) #[] #[.pointer (some ⟨w.heap.size, 0, none⟩)], born := 1 }, { key := .string ⟨#[99, 111, 110, 116, 101, 110, 116, 45, 108, 97, 110, 103, 117, 97, 103, 101]⟩, val := Value.func (Fn.func 37) #[] #[.pointer (some ⟨w.heap.size, 0, none⟩)], born := 2 }] 3) := by rw [hW3]; exact put_same _ _ _ _ hB2
  replace hp2 : (Instr.mapUpdate 40 (.map (some (w.heap.size + 1))) (.string ⟨#[99, 111, 110, 116, 101, 110, 116, 45, 108, 97, 110, 103, 117, 97, 103, 101]⟩) (Value.func (Fn.func 37) #[] #[.pointer (some ⟨w.heap.size, 0, none⟩)])).run Tryd.prog W2 = .ok () W3 := by rw [hW3]; exact hp2
  have HU3 := Aside0.mk (show W3.heap[w.heap.size]? = some (.cells #[Value.func (Fn.func 29) #[] #[]] 46 (0, 0)) by rw [hW3, put_other _ _ _ _ (by omega)]; exact HU2.out)
  have HO3 := Aside0.mk (show W3.heap[w.heap.size + 1 + 1]? = some (.cells #[Value.func (Fn.func 30) #[] #[]] 46 (0, 0)) by rw [hW3, put_other _ _ _ _ (by omega)]; exact HO2.out)
  have HB3 := Aside0.mk (show Below w.heap.size w W3 by rw [hW3]; exact below_put HB2.out (by omega) _)
  clear hW3 HU2 HO2 HB2
  rw [hp2]
  simp only [Result.andThen]
  rw [Oper.upon_skip]
  clear hp2
  go_wp2_with fail
  have hp3 := run_put W3 (w.heap.size + 1) #[{ key := .string ⟨#[97, 99, 99, 101, 112, 116]⟩, val := Value.func (Fn.func 37) #[] #[.pointer (some ⟨w.heap.size + 1 + 1, 0, none⟩)], born := 0 }, { key := .string ⟨#[97, 99, 99, 101, 112, 116, 45, 108, 97, 110, 103, 117, 97, 103, 101]⟩, val := Value.func (Fn.func 37) #[] #[.pointer (some ⟨w.heap.size, 0, none⟩)], born := 1 }, { key := .string ⟨#[99, 111, 110, 116, 101, 110, 116, 45, 108, 97, 110, 103, 117, 97, 103, 101]⟩, val := Value.func (Fn.func 37) #[] #[.pointer (some ⟨w.heap.size, 0, none⟩)], born := 2 }] 3 ⟨#[99, 111, 110, 116, 101, 110, 116, 45, 116, 121, 112, 101]⟩ (Value.func (Fn.func 31) #[] #[]) hB3 (by rfl)
  obtain ⟨W4, hW4⟩ : ∃ W, W = W3.putObj (w.heap.size + 1) (.map #[{ key := .string ⟨#[97, 99, 99, 101, 112, 116]⟩, val := Value.func (Fn.func 37) #[] #[.pointer (some ⟨w.heap.size + 1 + 1, 0, none⟩)], born := 0 }, { key := .string ⟨#[97, 99, 99, 101, 112, 116, 45, 108, 97, 110, 103, 117, 97, 103, 101]⟩, val := Value.func (Fn.func 37) #[] #[.pointer (some ⟨w.heap.size, 0, none⟩)], born := 1 }, { key := .string ⟨#[99, 111, 110, 116, 101, 110, 116, 45, 108, 97, 110, 103, 117, 97, 103, 101]⟩, val := Value.func (Fn.func 37) #[] #[.pointer (some ⟨w.heap.size, 0, none⟩)], born := 2 }, { key := .string ⟨#[99, 111, 110, 116, 101, 110, 116, 45, 116, 121, 112, 101]⟩, val := Value.func (Fn.func 31) #[] #[], born := 3 }] 4) := ⟨_, rfl⟩
  have hB4 : W4.heap[w.heap.size + 1]? = some (.map #[{ key := .string ⟨#[97, 99, 99, 101, 112, 116]⟩, val := Value.func (Fn.func 37) #[] #[.pointer (some ⟨w.heap.size + 1 + 1, 0, none⟩)], born := 0 }, { key := .string ⟨#[97, 99, 99, 101, 112, 116, 45, 108, 97, 110, 103, 117, 97, 103, 101]⟩, val := Value.func (Fn.func 37) #[] #[.pointer (some ⟨w.heap.size, 0, none⟩)], born := 1 }, { key := .string ⟨#[99, 111, 110, 116, 101, 110, 116, 45, 108, 97, 110, 103, 117, 97, 103, 101]⟩, val := Value.func (Fn.func 37) #[] #[.pointer (some ⟨w.heap.size, 0, none⟩)], born := 2 }, { key := .string ⟨#[99, 111, 110, 116, 101, 110, 116, 45, 116, 121, 112, 101]⟩, val := Value.func (Fn.func 31) #[] #[], born := 3 }] 4) := by rw [hW4]; exact put_same _ _ _ _ hB3
  replace hp3 : (Instr.mapUpdate 40 (.map (some (w.heap.size + 1))) (.string ⟨#[99, 111, 110, 116, 101, 110, 116, 45, 116, 121, 112, 101]⟩) (Value.func (Fn.func 31) #[] #[])).run Tryd.prog W3 = .ok () W4 := by rw [hW4]; exact hp3
  have HU4 := Aside0.mk (show W4.heap[w.heap.size]? = some (.cells #[Value.func (Fn.func 29) #[] #[]] 46 (0, 0)) by rw [hW4, put_other _ _ _ _ (by omega)]; exact HU3.out)
  have HO4 := Aside0.mk (show W4.heap[w.heap.size + 1 + 1]? = some (.cells #[Value.func (Fn.func 30) #[] #[]] 46 (0, 0)) by rw [hW4, put_other _ _ _ _ (by omega)]; exact HO3.out)
  have HB4 := Aside0.mk (show Below w.heap.size w W4 by rw [hW4]; exact below_put HB3.out (by omega) _)
  clear hW4 HU3 HO3 HB3
  rw [hp3]
  simp only [Result.andThen]
  rw [Oper.upon_skip]
  clear hp3
  go_wp2_with fail
  have hp4 := run_put W4 (w.heap.size + 1) #[{ key := .string ⟨#[97, 99, 99, 101, 112, 116]⟩, val := Value.func (Fn.func 37) #[] #[.pointer (some ⟨w.heap.size + 1 + 1, 0, none⟩)], born := 0 }, { key := .string ⟨#[97, 99, 99, 101, 112, 116, 45, 108, 97, 110, 103, 117, 97, 103, 101]⟩, val := Value.func (Fn.func 37) #[] #[.pointer (some ⟨w.heap.size, 0, none⟩)], born := 1 }, { key := .string ⟨#[99, 111, 110, 116, 101, 110, 116, 45, 108, 97, 110, 103, 117, 97, 103, 101]⟩, val := Value.func (Fn.func 37) #[] #[.pointer (some ⟨w.heap.size, 0, none⟩)], born := 2 }, { key := .string ⟨#[99, 111, 110, 116, 101, 110, 116, 45, 116, 121, 112, 101]⟩, val := Value.func (Fn.func 31) #[] #[], born := 3 }] 4 ⟨#[114, 97, 110, 103, 101]⟩ (Value.func (Fn.func 32) #[] #[]) hB4 (by rfl)
  obtain ⟨W5, hW5⟩ : ∃ W, W = W4.putObj (w.heap.size + 1) (.map #[{ key := .string ⟨#[97, 99, 99, 101, 112, 116]⟩, val := Value.func (Fn.func 37) #[] #[.pointer (some ⟨w.heap.size + 1 + 1, 0, none⟩)], born := 0 }, { key := .string ⟨#[97, 99, 99, 101, 112, 116, 45, 108, 97, 110, 103, 117, 97, 103, 101]⟩, val := Value.func (Fn.func 37) #[] #[.pointer (some ⟨w.heap.size, 0, none⟩)], born := 1 }, { key := .string ⟨#[99, 111, 110, 116, 101, 110, 116, 45, 108, 97, 110, 103, 117, 97, 103, 101]⟩, val := Value.func (Fn.func 37) #[] #[.pointer (some ⟨w.heap.size, 0, none⟩)], born := 2 }, { key := .string ⟨#[99, 111, 110, 116, 101, 110, 116, 45, 116, 121, 112, 101]⟩, val := Value.func (Fn.func 31) #[] #[], born := 3 }, { key := .string ⟨#[114, 97, 110, 103, 101]⟩, val := Value.func (Fn.func 32) #[] #[], born := 4 }] 5) := ⟨_, rfl⟩
  have hB5 : W5.heap[w.heap.size + 1]? = some (.map #[{ key := .string ⟨#[97, 99, 99, 101, 112, 116]⟩, val := Value.func (Fn.func 37) #[] #[.pointer (some ⟨w.heap.size + 1 + 1, 0, none⟩)], born := 0 }, { key := .string ⟨#[97, 99, 99, 101, 112, 116, 45, 108, 97, 110, 103, 117, 97, 103, 101]⟩, val := Value.func (Fn.func 37) #[] #[.pointer (some ⟨w.heap.size, 0, none⟩)], born := 1 }, { key := .string ⟨#[99, 111, 110, 116, 101, 110, 116, 45, 108, 97, 110, 103, 117, 97, 103, 101]⟩, val := Value.func (Fn.func 37) #[] #[.pointer (some ⟨w.heap.size, 0, none⟩)], born := 2 }, { key := .string ⟨#[99, 111, 110, 116, 101, 110, 116, 45, 116, 121, 112, 101]⟩, val := Value.func (Fn.func 31) #[] #[], born := 3 }, { key := .string ⟨#[114, 97, 110, 103, 101]⟩, val := Value.func (Fn.func 32) #[] #[], born := 4 }] 5) := by rw [hW5]; exact put_same _ _ _ _ hB4
  replace hp4 : (Instr.mapUpdate 40 (.map (some (w.heap.size + 1))) (.string ⟨#[114, 97, 110, 103, 101]⟩) (Value.func (Fn.func 32) #[] #[])).run Tryd.prog W4 = .ok () W5 := by rw [hW5]; exact hp4
  have HU5 := Aside0.mk (show W5.heap[w.heap.size]? = some (.cells #[Value.func (Fn.func 29) #[] #[]] 46 (0, 0)) by rw [hW5, put_other _ _ _ _ (by omega)]; exact HU4.out)
  have HO5 := Aside0.mk (show W5.heap[w.heap.size + 1 + 1]? = some (.cells #[Value.func (Fn.func 30) #[] #[]] 46 (0, 0)) by rw [hW5, put_other _ _ _ _ (by omega)]; exact HO4.out)
  have HB5 := Aside0.mk (show Below w.heap.size w W5 by rw [hW5]; exact below_put HB4.out (by omega) _)
  clear hW5 HU4 HO4 HB4
  rw [hp4]
  simp only [Result.andThen]
  rw [Oper.upon_skip]
  clear hp4
  go_wp2_with fail
  go_ret
  exact ⟨rfl, hB5, HU5.out, HO5.out, HB5.out⟩
end Go.Proofs.YtikhboebmmmopaaDoor.Ext
