-- Written by xprint.py and prunelaw.py, programs of this work's, by means of the kit's print. Not trusted: Lean checks it.
import Derived.Test.YtikhboebmmmopaaDoorFun
namespace Go.Proofs.YtikhboebmmmopaaDoor.Fun
open Go.RowKit Go.Proofs.YtikhboebmmmopaaDoorW.PrintWords Go.Proofs.YtikhboebmmmopaaDoorW.PrintLast Go.Proofs.YtikhboebmmmopaaDoorW.PrintMore
attribute [local go_sem] max2_int min2_int max_two min_two max_three min_three max_four min_four   -- for this text's walks alone
set_option linter.unusedVariables false
set_option linter.unusedSimpArgs false

/-! ### transeptlaw12_SafeCuts: function 5 -/
def transeptlaw12_SafeCuts.j0 : Nat → Bool → ByteArray → Bool → Option (Bool)
  | 0, _, _, _ => none
  | k + 1, x7, x8, x45 => if x45 = true then (some false) else (if x7 = true then (if x8.size + 1 ≤ 9223372036854775807 then ((Ext.safe_Header.f (⟨#[97, 99, 99, 101, 112, 116]⟩ : ByteArray) (x8 ++ (⟨#[40]⟩ : ByteArray))).bind fun t199 => (if t199 = true then (some false) else ((Ext.safe_Header.f (⟨#[99, 111, 110, 116, 101, 110, 116, 45, 116, 121, 112, 101]⟩ : ByteArray) (x8 ++ (⟨#[123]⟩ : ByteArray))).bind fun t200 => (if t200 = true then (some false) else ((Ext.safe_Header.f (⟨#[114, 97, 110, 103, 101]⟩ : ByteArray) (x8 ++ (⟨#[34]⟩ : ByteArray))).bind fun t201 => (if t201 = true then (some false) else ((Ext.safe_Header.f (⟨#[99, 111, 110, 116, 101, 110, 116, 45, 108, 97, 110, 103, 117, 97, 103, 101]⟩ : ByteArray) (x8 ++ (⟨#[64]⟩ : ByteArray))).bind fun t202 => (some (!t202))))))))) else (none)) else (some false))
def transeptlaw12_SafeCuts.f (k : Nat) (a0 : ByteArray) (a1 : Int) (a2 : Int) : Option (Bool) := (transeptlaw12_shown.f k).bind fun t192 => (if (wrap64 ((a0.size : Int) + 1)) = 0 then (none) else (if (wrap64 ((wrap64 ((a0.size : Int) - (Int.tmod (Go.bits .and .i64 a1 65535) (wrap64 ((a0.size : Int) + 1))))) + 1)) = 0 then (none) else (if 0 ≤ (Int.tmod (Go.bits .and .i64 a1 65535) (wrap64 ((a0.size : Int) + 1))) then (if (Int.tmod (Go.bits .and .i64 a1 65535) (wrap64 ((a0.size : Int) + 1))) ≤ (wrap64 ((Int.tmod (Go.bits .and .i64 a1 65535) (wrap64 ((a0.size : Int) + 1))) + (Int.tmod (Go.bits .and .i64 a2 65535) (wrap64 ((wrap64 ((a0.size : Int) - (Int.tmod (Go.bits .and .i64 a1 65535) (wrap64 ((a0.size : Int) + 1))))) + 1))))) then (if (wrap64 ((Int.tmod (Go.bits .and .i64 a1 65535) (wrap64 ((a0.size : Int) + 1))) + (Int.tmod (Go.bits .and .i64 a2 65535) (wrap64 ((wrap64 ((a0.size : Int) - (Int.tmod (Go.bits .and .i64 a1 65535) (wrap64 ((a0.size : Int) + 1))))) + 1))))) ≤ (a0.size : Int) then ((Ext.safe_Header.f (⟨#[97, 99, 99, 101, 112, 116]⟩ : ByteArray) a0).bind fun t193 => (if t193 = true then ((Ext.safe_Header.f (⟨#[97, 99, 99, 101, 112, 116]⟩ : ByteArray) (a0.extract ((Int.tmod (Go.bits .and .i64 a1 65535) (wrap64 ((a0.size : Int) + 1))) : Int).toNat ((wrap64 ((Int.tmod (Go.bits .and .i64 a1 65535) (wrap64 ((a0.size : Int) + 1))) + (Int.tmod (Go.bits .and .i64 a2 65535) (wrap64 ((wrap64 ((a0.size : Int) - (Int.tmod (Go.bits .and .i64 a1 65535) (wrap64 ((a0.size : Int) + 1))))) + 1))))) : Int).toNat)).bind fun t194 => (if t194 = true then ((Ext.safe_Header.f (⟨#[97, 99, 99, 101, 112, 116, 45, 108, 97, 110, 103, 117, 97, 103, 101]⟩ : ByteArray) a0).bind fun t195 => (if t195 = true then ((Ext.safe_Header.f (⟨#[99, 111, 110, 116, 101, 110, 116, 45, 108, 97, 110, 103, 117, 97, 103, 101]⟩ : ByteArray) (a0.extract ((Int.tmod (Go.bits .and .i64 a1 65535) (wrap64 ((a0.size : Int) + 1))) : Int).toNat ((wrap64 ((Int.tmod (Go.bits .and .i64 a1 65535) (wrap64 ((a0.size : Int) + 1))) + (Int.tmod (Go.bits .and .i64 a2 65535) (wrap64 ((wrap64 ((a0.size : Int) - (Int.tmod (Go.bits .and .i64 a1 65535) (wrap64 ((a0.size : Int) + 1))))) + 1))))) : Int).toNat)).bind fun t196 => (transeptlaw12_SafeCuts.j0 k t192 (a0.extract ((Int.tmod (Go.bits .and .i64 a1 65535) (wrap64 ((a0.size : Int) + 1))) : Int).toNat ((wrap64 ((Int.tmod (Go.bits .and .i64 a1 65535) (wrap64 ((a0.size : Int) + 1))) + (Int.tmod (Go.bits .and .i64 a2 65535) (wrap64 ((wrap64 ((a0.size : Int) - (Int.tmod (Go.bits .and .i64 a1 65535) (wrap64 ((a0.size : Int) + 1))))) + 1))))) : Int).toNat) (!t196))) else (transeptlaw12_SafeCuts.j0 k t192 (a0.extract ((Int.tmod (Go.bits .and .i64 a1 65535) (wrap64 ((a0.size : Int) + 1))) : Int).toNat ((wrap64 ((Int.tmod (Go.bits .and .i64 a1 65535) (wrap64 ((a0.size : Int) + 1))) + (Int.tmod (Go.bits .and .i64 a2 65535) (wrap64 ((wrap64 ((a0.size : Int) - (Int.tmod (Go.bits .and .i64 a1 65535) (wrap64 ((a0.size : Int) + 1))))) + 1))))) : Int).toNat) false))) else (transeptlaw12_SafeCuts.j0 k t192 (a0.extract ((Int.tmod (Go.bits .and .i64 a1 65535) (wrap64 ((a0.size : Int) + 1))) : Int).toNat ((wrap64 ((Int.tmod (Go.bits .and .i64 a1 65535) (wrap64 ((a0.size : Int) + 1))) + (Int.tmod (Go.bits .and .i64 a2 65535) (wrap64 ((wrap64 ((a0.size : Int) - (Int.tmod (Go.bits .and .i64 a1 65535) (wrap64 ((a0.size : Int) + 1))))) + 1))))) : Int).toNat) true))) else ((Ext.safe_Header.f (⟨#[97, 99, 99, 101, 112, 116, 45, 108, 97, 110, 103, 117, 97, 103, 101]⟩ : ByteArray) a0).bind fun t197 => (if t197 = true then ((Ext.safe_Header.f (⟨#[99, 111, 110, 116, 101, 110, 116, 45, 108, 97, 110, 103, 117, 97, 103, 101]⟩ : ByteArray) (a0.extract ((Int.tmod (Go.bits .and .i64 a1 65535) (wrap64 ((a0.size : Int) + 1))) : Int).toNat ((wrap64 ((Int.tmod (Go.bits .and .i64 a1 65535) (wrap64 ((a0.size : Int) + 1))) + (Int.tmod (Go.bits .and .i64 a2 65535) (wrap64 ((wrap64 ((a0.size : Int) - (Int.tmod (Go.bits .and .i64 a1 65535) (wrap64 ((a0.size : Int) + 1))))) + 1))))) : Int).toNat)).bind fun t198 => (transeptlaw12_SafeCuts.j0 k t192 (a0.extract ((Int.tmod (Go.bits .and .i64 a1 65535) (wrap64 ((a0.size : Int) + 1))) : Int).toNat ((wrap64 ((Int.tmod (Go.bits .and .i64 a1 65535) (wrap64 ((a0.size : Int) + 1))) + (Int.tmod (Go.bits .and .i64 a2 65535) (wrap64 ((wrap64 ((a0.size : Int) - (Int.tmod (Go.bits .and .i64 a1 65535) (wrap64 ((a0.size : Int) + 1))))) + 1))))) : Int).toNat) (!t198))) else (transeptlaw12_SafeCuts.j0 k t192 (a0.extract ((Int.tmod (Go.bits .and .i64 a1 65535) (wrap64 ((a0.size : Int) + 1))) : Int).toNat ((wrap64 ((Int.tmod (Go.bits .and .i64 a1 65535) (wrap64 ((a0.size : Int) + 1))) + (Int.tmod (Go.bits .and .i64 a2 65535) (wrap64 ((wrap64 ((a0.size : Int) - (Int.tmod (Go.bits .and .i64 a1 65535) (wrap64 ((a0.size : Int) + 1))))) + 1))))) : Int).toNat) false))))) else (none)) else (none)) else (none))))
theorem transeptlaw12_SafeCuts.mono_l : ∀ k, (∀ y0 y1 y2, LeO (transeptlaw12_SafeCuts.j0 k y0 y1 y2) (transeptlaw12_SafeCuts.j0 (k + 1) y0 y1 y2))
  | 0 => fun _ _ _ r h => by simp [transeptlaw12_SafeCuts.j0] at h
  | k + 1 => by
    have ih0 := transeptlaw12_SafeCuts.mono_l k
    · intro y0 y1 y2
      unfold transeptlaw12_SafeCuts.j0
      repeat' first
      | (with_reducible exact ih0 _ _ _)
      | (with_reducible exact transeptlaw12_shown.mono _)
      | (with_reducible exact LeO.refl _)
      | (with_reducible exact LeO.none _)
      | (with_reducible refine LeO.ite ?_ ?_)
      | (with_reducible refine LeO.bind ?_ (fun _ => ?_))
      | exact ih0 _ _ _
      | exact transeptlaw12_shown.mono _
      | exact LeO.none _
      | refine LeO.ite ?_ ?_
      | refine LeO.bind ?_ (fun _ => ?_)
theorem transeptlaw12_SafeCuts.mono : ∀ a0 a1 a2 k, LeO (transeptlaw12_SafeCuts.f k a0 a1 a2) (transeptlaw12_SafeCuts.f (k + 1) a0 a1 a2) := by
  intro a0 a1 a2 k
  have ih0 := transeptlaw12_SafeCuts.mono_l k
  unfold transeptlaw12_SafeCuts.f
  repeat' first
      | (with_reducible exact ih0 _ _ _)
      | (with_reducible exact transeptlaw12_shown.mono _)
      | (with_reducible exact LeO.refl _)
      | (with_reducible exact LeO.none _)
      | (with_reducible refine LeO.ite ?_ ?_)
      | (with_reducible refine LeO.bind ?_ (fun _ => ?_))
      | exact ih0 _ _ _
      | exact transeptlaw12_shown.mono _
      | exact LeO.none _
      | refine LeO.ite ?_ ?_
      | refine LeO.bind ?_ (fun _ => ?_)
set_option maxHeartbeats 8000000 in
set_option maxRecDepth 100000 in
theorem transeptlaw12_SafeCuts.calls (k : Nat) (a0 : ByteArray) (a1 : Int) (a2 : Int) (_r : Bool) (w : World) (hT : Ext.Tabs w) (h : transeptlaw12_SafeCuts.f k a0 a1 a2 = some true) :
    Calls Tryd.prog 5 #[.string a0, .int .i64 a1, .int .i64 a2] w fun e w' => e = .returned (.bool true) ∧ Below w.heap.size w w' := by
  have HB := Aside0.mk (Below.refl w.heap.size w)
  have HT := Aside0.mk hT
  clear hT
  have H : ((transeptlaw12_shown.f k).bind fun t192 => (if (wrap64 ((a0.size : Int) + 1)) = 0 then (none) else (if (wrap64 ((wrap64 ((a0.size : Int) - (Int.tmod (Go.bits .and .i64 a1 65535) (wrap64 ((a0.size : Int) + 1))))) + 1)) = 0 then (none) else (if 0 ≤ (Int.tmod (Go.bits .and .i64 a1 65535) (wrap64 ((a0.size : Int) + 1))) then (if (Int.tmod (Go.bits .and .i64 a1 65535) (wrap64 ((a0.size : Int) + 1))) ≤ (wrap64 ((Int.tmod (Go.bits .and .i64 a1 65535) (wrap64 ((a0.size : Int) + 1))) + (Int.tmod (Go.bits .and .i64 a2 65535) (wrap64 ((wrap64 ((a0.size : Int) - (Int.tmod (Go.bits .and .i64 a1 65535) (wrap64 ((a0.size : Int) + 1))))) + 1))))) then (if (wrap64 ((Int.tmod (Go.bits .and .i64 a1 65535) (wrap64 ((a0.size : Int) + 1))) + (Int.tmod (Go.bits .and .i64 a2 65535) (wrap64 ((wrap64 ((a0.size : Int) - (Int.tmod (Go.bits .and .i64 a1 65535) (wrap64 ((a0.size : Int) + 1))))) + 1))))) ≤ (a0.size : Int) then ((Ext.safe_Header.f (⟨#[97, 99, 99, 101, 112, 116]⟩ : ByteArray) a0).bind fun t193 => (if t193 = true then ((Ext.safe_Header.f (⟨#[97, 99, 99, 101, 112, 116]⟩ : ByteArray) (a0.extract ((Int.tmod (Go.bits .and .i64 a1 65535) (wrap64 ((a0.size : Int) + 1))) : Int).toNat ((wrap64 ((Int.tmod (Go.bits .and .i64 a1 65535) (wrap64 ((a0.size : Int) + 1))) + (Int.tmod (Go.bits .and .i64 a2 65535) (wrap64 ((wrap64 ((a0.size : Int) - (Int.tmod (Go.bits .and .i64 a1 65535) (wrap64 ((a0.size : Int) + 1))))) + 1))))) : Int).toNat)).bind fun t194 => (if t194 = true then ((Ext.safe_Header.f (⟨#[97, 99, 99, 101, 112, 116, 45, 108, 97, 110, 103, 117, 97, 103, 101]⟩ : ByteArray) a0).bind fun t195 => (if t195 = true then ((Ext.safe_Header.f (⟨#[99, 111, 110, 116, 101, 110, 116, 45, 108, 97, 110, 103, 117, 97, 103, 101]⟩ : ByteArray) (a0.extract ((Int.tmod (Go.bits .and .i64 a1 65535) (wrap64 ((a0.size : Int) + 1))) : Int).toNat ((wrap64 ((Int.tmod (Go.bits .and .i64 a1 65535) (wrap64 ((a0.size : Int) + 1))) + (Int.tmod (Go.bits .and .i64 a2 65535) (wrap64 ((wrap64 ((a0.size : Int) - (Int.tmod (Go.bits .and .i64 a1 65535) (wrap64 ((a0.size : Int) + 1))))) + 1))))) : Int).toNat)).bind fun t196 => (transeptlaw12_SafeCuts.j0 k t192 (a0.extract ((Int.tmod (Go.bits .and .i64 a1 65535) (wrap64 ((a0.size : Int) + 1))) : Int).toNat ((wrap64 ((Int.tmod (Go.bits .and .i64 a1 65535) (wrap64 ((a0.size : Int) + 1))) + (Int.tmod (Go.bits .and .i64 a2 65535) (wrap64 ((wrap64 ((a0.size : Int) - (Int.tmod (Go.bits .and .i64 a1 65535) (wrap64 ((a0.size : Int) + 1))))) + 1))))) : Int).toNat) (!t196))) else (transeptlaw12_SafeCuts.j0 k t192 (a0.extract ((Int.tmod (Go.bits .and .i64 a1 65535) (wrap64 ((a0.size : Int) + 1))) : Int).toNat ((wrap64 ((Int.tmod (Go.bits .and .i64 a1 65535) (wrap64 ((a0.size : Int) + 1))) + (Int.tmod (Go.bits .and .i64 a2 65535) (wrap64 ((wrap64 ((a0.size : Int) - (Int.tmod (Go.bits .and .i64 a1 65535) (wrap64 ((a0.size : Int) + 1))))) + 1))))) : Int).toNat) false))) else (transeptlaw12_SafeCuts.j0 k t192 (a0.extract ((Int.tmod (Go.bits .and .i64 a1 65535) (wrap64 ((a0.size : Int) + 1))) : Int).toNat ((wrap64 ((Int.tmod (Go.bits .and .i64 a1 65535) (wrap64 ((a0.size : Int) + 1))) + (Int.tmod (Go.bits .and .i64 a2 65535) (wrap64 ((wrap64 ((a0.size : Int) - (Int.tmod (Go.bits .and .i64 a1 65535) (wrap64 ((a0.size : Int) + 1))))) + 1))))) : Int).toNat) true))) else ((Ext.safe_Header.f (⟨#[97, 99, 99, 101, 112, 116, 45, 108, 97, 110, 103, 117, 97, 103, 101]⟩ : ByteArray) a0).bind fun t197 => (if t197 = true then ((Ext.safe_Header.f (⟨#[99, 111, 110, 116, 101, 110, 116, 45, 108, 97, 110, 103, 117, 97, 103, 101]⟩ : ByteArray) (a0.extract ((Int.tmod (Go.bits .and .i64 a1 65535) (wrap64 ((a0.size : Int) + 1))) : Int).toNat ((wrap64 ((Int.tmod (Go.bits .and .i64 a1 65535) (wrap64 ((a0.size : Int) + 1))) + (Int.tmod (Go.bits .and .i64 a2 65535) (wrap64 ((wrap64 ((a0.size : Int) - (Int.tmod (Go.bits .and .i64 a1 65535) (wrap64 ((a0.size : Int) + 1))))) + 1))))) : Int).toNat)).bind fun t198 => (transeptlaw12_SafeCuts.j0 k t192 (a0.extract ((Int.tmod (Go.bits .and .i64 a1 65535) (wrap64 ((a0.size : Int) + 1))) : Int).toNat ((wrap64 ((Int.tmod (Go.bits .and .i64 a1 65535) (wrap64 ((a0.size : Int) + 1))) + (Int.tmod (Go.bits .and .i64 a2 65535) (wrap64 ((wrap64 ((a0.size : Int) - (Int.tmod (Go.bits .and .i64 a1 65535) (wrap64 ((a0.size : Int) + 1))))) + 1))))) : Int).toNat) (!t198))) else (transeptlaw12_SafeCuts.j0 k t192 (a0.extract ((Int.tmod (Go.bits .and .i64 a1 65535) (wrap64 ((a0.size : Int) + 1))) : Int).toNat ((wrap64 ((Int.tmod (Go.bits .and .i64 a1 65535) (wrap64 ((a0.size : Int) + 1))) + (Int.tmod (Go.bits .and .i64 a2 65535) (wrap64 ((wrap64 ((a0.size : Int) - (Int.tmod (Go.bits .and .i64 a1 65535) (wrap64 ((a0.size : Int) + 1))))) + 1))))) : Int).toNat) false))))) else (none)) else (none)) else (none))))) = some true := h
  clear h
  replace H := Option.bind_eq_some_iff.mp H
  obtain ⟨t192, A40, H⟩ := H
  replace H : (if (wrap64 ((a0.size : Int) + 1)) = 0 then (none) else (if (wrap64 ((wrap64 ((a0.size : Int) - (Int.tmod (Go.bits .and .i64 a1 65535) (wrap64 ((a0.size : Int) + 1))))) + 1)) = 0 then (none) else (if 0 ≤ (Int.tmod (Go.bits .and .i64 a1 65535) (wrap64 ((a0.size : Int) + 1))) then (if (Int.tmod (Go.bits .and .i64 a1 65535) (wrap64 ((a0.size : Int) + 1))) ≤ (wrap64 ((Int.tmod (Go.bits .and .i64 a1 65535) (wrap64 ((a0.size : Int) + 1))) + (Int.tmod (Go.bits .and .i64 a2 65535) (wrap64 ((wrap64 ((a0.size : Int) - (Int.tmod (Go.bits .and .i64 a1 65535) (wrap64 ((a0.size : Int) + 1))))) + 1))))) then (if (wrap64 ((Int.tmod (Go.bits .and .i64 a1 65535) (wrap64 ((a0.size : Int) + 1))) + (Int.tmod (Go.bits .and .i64 a2 65535) (wrap64 ((wrap64 ((a0.size : Int) - (Int.tmod (Go.bits .and .i64 a1 65535) (wrap64 ((a0.size : Int) + 1))))) + 1))))) ≤ (a0.size : Int) then ((Ext.safe_Header.f (⟨#[97, 99, 99, 101, 112, 116]⟩ : ByteArray) a0).bind fun t193 => (if t193 = true then ((Ext.safe_Header.f (⟨#[97, 99, 99, 101, 112, 116]⟩ : ByteArray) (a0.extract ((Int.tmod (Go.bits .and .i64 a1 65535) (wrap64 ((a0.size : Int) + 1))) : Int).toNat ((wrap64 ((Int.tmod (Go.bits .and .i64 a1 65535) (wrap64 ((a0.size : Int) + 1))) + (Int.tmod (Go.bits .and .i64 a2 65535) (wrap64 ((wrap64 ((a0.size : Int) - (Int.tmod (Go.bits .and .i64 a1 65535) (wrap64 ((a0.size : Int) + 1))))) + 1))))) : Int).toNat)).bind fun t194 => (if t194 = true then ((Ext.safe_Header.f (⟨#[97, 99, 99, 101, 112, 116, 45, 108, 97, 110, 103, 117, 97, 103, 101]⟩ : ByteArray) a0).bind fun t195 => (if t195 = true then ((Ext.safe_Header.f (⟨#[99, 111, 110, 116, 101, 110, 116, 45, 108, 97, 110, 103, 117, 97, 103, 101]⟩ : ByteArray) (a0.extract ((Int.tmod (Go.bits .and .i64 a1 65535) (wrap64 ((a0.size : Int) + 1))) : Int).toNat ((wrap64 ((Int.tmod (Go.bits .and .i64 a1 65535) (wrap64 ((a0.size : Int) + 1))) + (Int.tmod (Go.bits .and .i64 a2 65535) (wrap64 ((wrap64 ((a0.size : Int) - (Int.tmod (Go.bits .and .i64 a1 65535) (wrap64 ((a0.size : Int) + 1))))) + 1))))) : Int).toNat)).bind fun t196 => (transeptlaw12_SafeCuts.j0 k t192 (a0.extract ((Int.tmod (Go.bits .and .i64 a1 65535) (wrap64 ((a0.size : Int) + 1))) : Int).toNat ((wrap64 ((Int.tmod (Go.bits .and .i64 a1 65535) (wrap64 ((a0.size : Int) + 1))) + (Int.tmod (Go.bits .and .i64 a2 65535) (wrap64 ((wrap64 ((a0.size : Int) - (Int.tmod (Go.bits .and .i64 a1 65535) (wrap64 ((a0.size : Int) + 1))))) + 1))))) : Int).toNat) (!t196))) else (transeptlaw12_SafeCuts.j0 k t192 (a0.extract ((Int.tmod (Go.bits .and .i64 a1 65535) (wrap64 ((a0.size : Int) + 1))) : Int).toNat ((wrap64 ((Int.tmod (Go.bits .and .i64 a1 65535) (wrap64 ((a0.size : Int) + 1))) + (Int.tmod (Go.bits .and .i64 a2 65535) (wrap64 ((wrap64 ((a0.size : Int) - (Int.tmod (Go.bits .and .i64 a1 65535) (wrap64 ((a0.size : Int) + 1))))) + 1))))) : Int).toNat) false))) else (transeptlaw12_SafeCuts.j0 k t192 (a0.extract ((Int.tmod (Go.bits .and .i64 a1 65535) (wrap64 ((a0.size : Int) + 1))) : Int).toNat ((wrap64 ((Int.tmod (Go.bits .and .i64 a1 65535) (wrap64 ((a0.size : Int) + 1))) + (Int.tmod (Go.bits .and .i64 a2 65535) (wrap64 ((wrap64 ((a0.size : Int) - (Int.tmod (Go.bits .and .i64 a1 65535) (wrap64 ((a0.size : Int) + 1))))) + 1))))) : Int).toNat) true))) else ((Ext.safe_Header.f (⟨#[97, 99, 99, 101, 112, 116, 45, 108, 97, 110, 103, 117, 97, 103, 101]⟩ : ByteArray) a0).bind fun t197 => (if t197 = true then ((Ext.safe_Header.f (⟨#[99, 111, 110, 116, 101, 110, 116, 45, 108, 97, 110, 103, 117, 97, 103, 101]⟩ : ByteArray) (a0.extract ((Int.tmod (Go.bits .and .i64 a1 65535) (wrap64 ((a0.size : Int) + 1))) : Int).toNat ((wrap64 ((Int.tmod (Go.bits .and .i64 a1 65535) (wrap64 ((a0.size : Int) + 1))) + (Int.tmod (Go.bits .and .i64 a2 65535) (wrap64 ((wrap64 ((a0.size : Int) - (Int.tmod (Go.bits .and .i64 a1 65535) (wrap64 ((a0.size : Int) + 1))))) + 1))))) : Int).toNat)).bind fun t198 => (transeptlaw12_SafeCuts.j0 k t192 (a0.extract ((Int.tmod (Go.bits .and .i64 a1 65535) (wrap64 ((a0.size : Int) + 1))) : Int).toNat ((wrap64 ((Int.tmod (Go.bits .and .i64 a1 65535) (wrap64 ((a0.size : Int) + 1))) + (Int.tmod (Go.bits .and .i64 a2 65535) (wrap64 ((wrap64 ((a0.size : Int) - (Int.tmod (Go.bits .and .i64 a1 65535) (wrap64 ((a0.size : Int) + 1))))) + 1))))) : Int).toNat) (!t198))) else (transeptlaw12_SafeCuts.j0 k t192 (a0.extract ((Int.tmod (Go.bits .and .i64 a1 65535) (wrap64 ((a0.size : Int) + 1))) : Int).toNat ((wrap64 ((Int.tmod (Go.bits .and .i64 a1 65535) (wrap64 ((a0.size : Int) + 1))) + (Int.tmod (Go.bits .and .i64 a2 65535) (wrap64 ((wrap64 ((a0.size : Int) - (Int.tmod (Go.bits .and .i64 a1 65535) (wrap64 ((a0.size : Int) + 1))))) + 1))))) : Int).toNat) false))))) else (none)) else (none)) else (none)))) = some true := H
  have A4 := Aside0.mk A40
  clear A40
  by_cases c5 : (wrap64 ((a0.size : Int) + 1)) = 0
  · rw [if_pos c5] at H
    exact absurd H (by simp)
  · rw [if_neg c5] at H
    have c5b0 : ((wrap64 ((a0.size : Int) + 1)) == 0) = false := beq_eq_false_iff_ne.mpr c5
    have c5b1 : ((wrap64 ((a0.size : Int) + 1)) != 0) = true := bne_iff_ne.mpr c5
    by_cases c6 : (wrap64 ((wrap64 ((a0.size : Int) - (Int.tmod (Go.bits .and .i64 a1 65535) (wrap64 ((a0.size : Int) + 1))))) + 1)) = 0
    · rw [if_pos c6] at H
      exact absurd H (by simp)
    · rw [if_neg c6] at H
      have c6b0 : ((wrap64 ((wrap64 ((a0.size : Int) - (Int.tmod (Go.bits .and .i64 a1 65535) (wrap64 ((a0.size : Int) + 1))))) + 1)) == 0) = false := beq_eq_false_iff_ne.mpr c6
      have c6b1 : ((wrap64 ((wrap64 ((a0.size : Int) - (Int.tmod (Go.bits .and .i64 a1 65535) (wrap64 ((a0.size : Int) + 1))))) + 1)) != 0) = true := bne_iff_ne.mpr c6
      obtain ⟨ji7, hji7⟩ : ∃ j_ : Int, (Int.tmod (Go.bits .and .i64 a1 65535) (wrap64 ((a0.size : Int) + 1))) = j_ := ⟨_, rfl⟩
      replace H : (if 0 ≤ (ji7) then (if (ji7) ≤ (wrap64 ((ji7) + (Int.tmod (Go.bits .and .i64 a2 65535) (wrap64 ((wrap64 ((a0.size : Int) - (ji7))) + 1))))) then (if (wrap64 ((ji7) + (Int.tmod (Go.bits .and .i64 a2 65535) (wrap64 ((wrap64 ((a0.size : Int) - (ji7))) + 1))))) ≤ (a0.size : Int) then ((Ext.safe_Header.f (⟨#[97, 99, 99, 101, 112, 116]⟩ : ByteArray) a0).bind fun t193 => (if t193 = true then ((Ext.safe_Header.f (⟨#[97, 99, 99, 101, 112, 116]⟩ : ByteArray) (a0.extract ((ji7) : Int).toNat ((wrap64 ((ji7) + (Int.tmod (Go.bits .and .i64 a2 65535) (wrap64 ((wrap64 ((a0.size : Int) - (ji7))) + 1))))) : Int).toNat)).bind fun t194 => (if t194 = true then ((Ext.safe_Header.f (⟨#[97, 99, 99, 101, 112, 116, 45, 108, 97, 110, 103, 117, 97, 103, 101]⟩ : ByteArray) a0).bind fun t195 => (if t195 = true then ((Ext.safe_Header.f (⟨#[99, 111, 110, 116, 101, 110, 116, 45, 108, 97, 110, 103, 117, 97, 103, 101]⟩ : ByteArray) (a0.extract ((ji7) : Int).toNat ((wrap64 ((ji7) + (Int.tmod (Go.bits .and .i64 a2 65535) (wrap64 ((wrap64 ((a0.size : Int) - (ji7))) + 1))))) : Int).toNat)).bind fun t196 => (transeptlaw12_SafeCuts.j0 k t192 (a0.extract ((ji7) : Int).toNat ((wrap64 ((ji7) + (Int.tmod (Go.bits .and .i64 a2 65535) (wrap64 ((wrap64 ((a0.size : Int) - (ji7))) + 1))))) : Int).toNat) (!t196))) else (transeptlaw12_SafeCuts.j0 k t192 (a0.extract ((ji7) : Int).toNat ((wrap64 ((ji7) + (Int.tmod (Go.bits .and .i64 a2 65535) (wrap64 ((wrap64 ((a0.size : Int) - (ji7))) + 1))))) : Int).toNat) false))) else (transeptlaw12_SafeCuts.j0 k t192 (a0.extract ((ji7) : Int).toNat ((wrap64 ((ji7) + (Int.tmod (Go.bits .and .i64 a2 65535) (wrap64 ((wrap64 ((a0.size : Int) - (ji7))) + 1))))) : Int).toNat) true))) else ((Ext.safe_Header.f (⟨#[97, 99, 99, 101, 112, 116, 45, 108, 97, 110, 103, 117, 97, 103, 101]⟩ : ByteArray) a0).bind fun t197 => (if t197 = true then ((Ext.safe_Header.f (⟨#[99, 111, 110, 116, 101, 110, 116, 45, 108, 97, 110, 103, 117, 97, 103, 101]⟩ : ByteArray) (a0.extract ((ji7) : Int).toNat ((wrap64 ((ji7) + (Int.tmod (Go.bits .and .i64 a2 65535) (wrap64 ((wrap64 ((a0.size : Int) - (ji7))) + 1))))) : Int).toNat)).bind fun t198 => (transeptlaw12_SafeCuts.j0 k t192 (a0.extract ((ji7) : Int).toNat ((wrap64 ((ji7) + (Int.tmod (Go.bits .and .i64 a2 65535) (wrap64 ((wrap64 ((a0.size : Int) - (ji7))) + 1))))) : Int).toNat) (!t198))) else (transeptlaw12_SafeCuts.j0 k t192 (a0.extract ((ji7) : Int).toNat ((wrap64 ((ji7) + (Int.tmod (Go.bits .and .i64 a2 65535) (wrap64 ((wrap64 ((a0.size : Int) - (ji7))) + 1))))) : Int).toNat) false))))) else (none)) else (none)) else (none)) = some true := by first | (rw [hji7] at H; exact H) | (simp only [hji7] at H ⊢; exact H)
      (try rw [hji7] at c6b0)
      (try rw [hji7] at c6b1)
      (try rw [hji7] at A4)
      by_cases c8 : 0 ≤ (ji7)
      · rw [if_pos c8] at H
        have c8b0 := eq_true c8
        have c8b1 : decide (0 ≤ (ji7)) = true := decide_eq_true c8
        by_cases c9 : (ji7) ≤ (wrap64 ((ji7) + (Int.tmod (Go.bits .and .i64 a2 65535) (wrap64 ((wrap64 ((a0.size : Int) - (ji7))) + 1)))))
        · rw [if_pos c9] at H
          have c9b0 := eq_true c9
          have c9b1 : decide ((ji7) ≤ (wrap64 ((ji7) + (Int.tmod (Go.bits .and .i64 a2 65535) (wrap64 ((wrap64 ((a0.size : Int) - (ji7))) + 1)))))) = true := decide_eq_true c9
          by_cases c10 : (wrap64 ((ji7) + (Int.tmod (Go.bits .and .i64 a2 65535) (wrap64 ((wrap64 ((a0.size : Int) - (ji7))) + 1))))) ≤ (a0.size : Int)
          · rw [if_pos c10] at H
            have c10b0 := eq_true c10
            have c10b1 : decide ((wrap64 ((ji7) + (Int.tmod (Go.bits .and .i64 a2 65535) (wrap64 ((wrap64 ((a0.size : Int) - (ji7))) + 1))))) ≤ (a0.size : Int)) = true := decide_eq_true c10
            have HC11 := Aside0.mk H
            clear H
            rw [hji7] at c6
            go_enter Tryd.func5, Tryd.ntmps5
            go_upto_region 5 with (first | ((with_reducible refine gate_callee (f := 9) rfl ?_); refine goesL_ (some 9) rfl rfl Tryd.func9 (by kernel_rfl) rfl #[] rfl (by (try simp only [List.map_toArray, List.map_cons, List.map_nil]); first | done | rfl | (simp only [List.length_drop, List.length_take]; rfl)) ?_; (with_reducible refine (transeptlaw12_shown.calls k  t192 _ ?side1 A4.out).mono ?_); (case side1 => exact Ext.tabs_at HT.out (by repeat (first | (with_reducible first | exact HB.out | apply below_alloc | apply pw_below_drewN | apply below_drew1) | exact HB.out))); rintro e w12 ⟨rfl, hb⟩; refine ⟨_, rfl, ?_⟩; have n0_ := Aside0.mk (below_step (by repeat (first | (with_reducible first | exact HB.out | apply below_alloc | apply pw_below_drewN | apply below_drew1) | exact HB.out)) hb); clear HB; have HB := n0_; clear n0_; (try clear hb); (try clear hb2); (try clear hk); (try clear hi)))
            all_goals (try (exfalso; omega))
            (try simp only [Act.put, List.setIfInBounds_toArray, List.set_cons_zero, List.set_cons_succ])
            obtain ⟨pt_, hpt_⟩ : ∃ x_ : ByteArray, (a0.extract ((ji7) : Int).toNat ((wrap64 ((ji7) + (Int.tmod (Go.bits .and .i64 a2 65535) (wrap64 ((wrap64 ((a0.size : Int) - (ji7))) + 1))))) : Int).toNat) = x_ := ⟨_, rfl⟩
            rw [hpt_]
            rw [hpt_] at HC11
            go_cut [45] (fun v45 wc => ∃ (kq : Nat) (x45_10 : Bool), v45 = .bool x45_10 ∧ Aside0 (transeptlaw12_SafeCuts.j0 kq t192 pt_ x45_10 = some true) ∧ Aside0 (kq ≤ k) ∧ Aside0 (Below w.heap.size w wc))
            case first =>
              have H := HC11.out
              clear HC11
              replace H := Option.bind_eq_some_iff.mp H
              obtain ⟨t193, A130, H⟩ := H
              replace H : (if t193 = true then ((Ext.safe_Header.f (⟨#[97, 99, 99, 101, 112, 116]⟩ : ByteArray) pt_).bind fun t194 => (if t194 = true then ((Ext.safe_Header.f (⟨#[97, 99, 99, 101, 112, 116, 45, 108, 97, 110, 103, 117, 97, 103, 101]⟩ : ByteArray) a0).bind fun t195 => (if t195 = true then ((Ext.safe_Header.f (⟨#[99, 111, 110, 116, 101, 110, 116, 45, 108, 97, 110, 103, 117, 97, 103, 101]⟩ : ByteArray) pt_).bind fun t196 => (transeptlaw12_SafeCuts.j0 k t192 pt_ (!t196))) else (transeptlaw12_SafeCuts.j0 k t192 pt_ false))) else (transeptlaw12_SafeCuts.j0 k t192 pt_ true))) else ((Ext.safe_Header.f (⟨#[97, 99, 99, 101, 112, 116, 45, 108, 97, 110, 103, 117, 97, 103, 101]⟩ : ByteArray) a0).bind fun t197 => (if t197 = true then ((Ext.safe_Header.f (⟨#[99, 111, 110, 116, 101, 110, 116, 45, 108, 97, 110, 103, 117, 97, 103, 101]⟩ : ByteArray) pt_).bind fun t198 => (transeptlaw12_SafeCuts.j0 k t192 pt_ (!t198))) else (transeptlaw12_SafeCuts.j0 k t192 pt_ false)))) = some true := H
              have A13 := Aside0.mk A130
              clear A130
              by_cases c14 : t193 = true
              · subst c14
                have H1 : ((Ext.safe_Header.f (⟨#[97, 99, 99, 101, 112, 116]⟩ : ByteArray) pt_).bind fun t194 => (if t194 = true then ((Ext.safe_Header.f (⟨#[97, 99, 99, 101, 112, 116, 45, 108, 97, 110, 103, 117, 97, 103, 101]⟩ : ByteArray) a0).bind fun t195 => (if t195 = true then ((Ext.safe_Header.f (⟨#[99, 111, 110, 116, 101, 110, 116, 45, 108, 97, 110, 103, 117, 97, 103, 101]⟩ : ByteArray) pt_).bind fun t196 => (transeptlaw12_SafeCuts.j0 k t192 pt_ (!t196))) else (transeptlaw12_SafeCuts.j0 k t192 pt_ false))) else (transeptlaw12_SafeCuts.j0 k t192 pt_ true))) = some true := by rw [if_pos rfl] at H; exact H
                clear H
                have H := H1
                clear H1
                replace H := Option.bind_eq_some_iff.mp H
                obtain ⟨t194, A150, H⟩ := H
                replace H : (if t194 = true then ((Ext.safe_Header.f (⟨#[97, 99, 99, 101, 112, 116, 45, 108, 97, 110, 103, 117, 97, 103, 101]⟩ : ByteArray) a0).bind fun t195 => (if t195 = true then ((Ext.safe_Header.f (⟨#[99, 111, 110, 116, 101, 110, 116, 45, 108, 97, 110, 103, 117, 97, 103, 101]⟩ : ByteArray) pt_).bind fun t196 => (transeptlaw12_SafeCuts.j0 k t192 pt_ (!t196))) else (transeptlaw12_SafeCuts.j0 k t192 pt_ false))) else (transeptlaw12_SafeCuts.j0 k t192 pt_ true)) = some true := H
                have A15 := Aside0.mk A150
                clear A150
                by_cases c16 : t194 = true
                · subst c16
                  have H1 : ((Ext.safe_Header.f (⟨#[97, 99, 99, 101, 112, 116, 45, 108, 97, 110, 103, 117, 97, 103, 101]⟩ : ByteArray) a0).bind fun t195 => (if t195 = true then ((Ext.safe_Header.f (⟨#[99, 111, 110, 116, 101, 110, 116, 45, 108, 97, 110, 103, 117, 97, 103, 101]⟩ : ByteArray) pt_).bind fun t196 => (transeptlaw12_SafeCuts.j0 k t192 pt_ (!t196))) else (transeptlaw12_SafeCuts.j0 k t192 pt_ false))) = some true := by rw [if_pos rfl] at H; exact H
                  clear H
                  have H := H1
                  clear H1
                  replace H := Option.bind_eq_some_iff.mp H
                  obtain ⟨t195, A170, H⟩ := H
                  replace H : (if t195 = true then ((Ext.safe_Header.f (⟨#[99, 111, 110, 116, 101, 110, 116, 45, 108, 97, 110, 103, 117, 97, 103, 101]⟩ : ByteArray) pt_).bind fun t196 => (transeptlaw12_SafeCuts.j0 k t192 pt_ (!t196))) else (transeptlaw12_SafeCuts.j0 k t192 pt_ false)) = some true := H
                  have A17 := Aside0.mk A170
                  clear A170
                  by_cases c18 : t195 = true
                  · subst c18
                    have H1 : ((Ext.safe_Header.f (⟨#[99, 111, 110, 116, 101, 110, 116, 45, 108, 97, 110, 103, 117, 97, 103, 101]⟩ : ByteArray) pt_).bind fun t196 => (transeptlaw12_SafeCuts.j0 k t192 pt_ (!t196))) = some true := by rw [if_pos rfl] at H; exact H
                    clear H
                    have H := H1
                    clear H1
                    replace H := Option.bind_eq_some_iff.mp H
                    obtain ⟨t196, A190, H⟩ := H
                    replace H : (transeptlaw12_SafeCuts.j0 k t192 pt_ (!t196)) = some true := H
                    have A19 := Aside0.mk A190
                    clear A190
                    have H' := Aside0.mk H
                    clear H
                    go_wp2_with (first | ((with_reducible refine gate_callee (f := 12) rfl ?_); refine goesL_ (some 31) rfl rfl Tryd.func12 (by kernel_rfl) rfl #[.string (⟨#[97, 99, 99, 101, 112, 116]⟩ : ByteArray), .string a0] rfl (by (try simp only [List.map_toArray, List.map_cons, List.map_nil]); first | done | rfl | (simp only [List.length_drop, List.length_take]; rfl)) ?_; (with_reducible refine (Ext.safe_Header.calls (⟨#[97, 99, 99, 101, 112, 116]⟩ : ByteArray) a0 true _ ?side1 A13.out).mono ?_); (case side1 => exact Ext.tabs_at HT.out (by repeat (first | (with_reducible first | exact HB.out | apply below_alloc | apply pw_below_drewN | apply below_drew1) | exact HB.out))); rintro e w20 ⟨rfl, hb⟩; refine ⟨_, rfl, ?_⟩; have n0_ := Aside0.mk (below_step (by repeat (first | (with_reducible first | exact HB.out | apply below_alloc | apply pw_below_drewN | apply below_drew1) | exact HB.out)) hb); clear HB; have HB := n0_; clear n0_; (try clear hb); (try clear hb2); (try clear hk); (try clear hi)) | (go_at_call 12; (with_reducible refine (Ext.safe_Header.calls (⟨#[97, 99, 99, 101, 112, 116]⟩ : ByteArray) pt_ true _ ?side1 A15.out).mono ?_); (case side1 => exact Ext.tabs_at HT.out (by repeat (first | (with_reducible first | exact HB.out | apply below_alloc | apply pw_below_drewN | apply below_drew1) | exact HB.out))); rintro e w21 ⟨rfl, hb⟩; have n0_ := Aside0.mk (below_step (by repeat (first | (with_reducible first | exact HB.out | apply below_alloc | apply pw_below_drewN | apply below_drew1) | exact HB.out)) hb); clear HB; have HB := n0_; clear n0_; (try clear hb); (try clear hb2); (try clear hk); (try clear hi)) | (go_at_call 12; (with_reducible refine (Ext.safe_Header.calls (⟨#[97, 99, 99, 101, 112, 116, 45, 108, 97, 110, 103, 117, 97, 103, 101]⟩ : ByteArray) a0 true _ ?side1 A17.out).mono ?_); (case side1 => exact Ext.tabs_at HT.out (by repeat (first | (with_reducible first | exact HB.out | apply below_alloc | apply pw_below_drewN | apply below_drew1) | exact HB.out))); rintro e w22 ⟨rfl, hb⟩; have n0_ := Aside0.mk (below_step (by repeat (first | (with_reducible first | exact HB.out | apply below_alloc | apply pw_below_drewN | apply below_drew1) | exact HB.out)) hb); clear HB; have HB := n0_; clear n0_; (try clear hb); (try clear hb2); (try clear hk); (try clear hi)) | (go_at_call 12; (with_reducible refine (Ext.safe_Header.calls (⟨#[99, 111, 110, 116, 101, 110, 116, 45, 108, 97, 110, 103, 117, 97, 103, 101]⟩ : ByteArray) pt_ t196 _ ?side1 A19.out).mono ?_); (case side1 => exact Ext.tabs_at HT.out (by repeat (first | (with_reducible first | exact HB.out | apply below_alloc | apply pw_below_drewN | apply below_drew1) | exact HB.out))); rintro e w23 ⟨rfl, hb⟩; have n0_ := Aside0.mk (below_step (by repeat (first | (with_reducible first | exact HB.out | apply below_alloc | apply pw_below_drewN | apply below_drew1) | exact HB.out)) hb); clear HB; have HB := n0_; clear n0_; (try clear hb); (try clear hb2); (try clear hk); (try clear hi)))
                    all_goals (try (exfalso; omega))
                    go_meet
                    case rel => exact ⟨_, (!t196), (by first | rfl | (simp; done) | (simp [*]; done) | (congr 1; unfold wrap64; omega) | (simp; simp only [decide_eq_false_iff_not, decide_eq_true_eq] at *; congr 2; omega)), H', ⟨by first | omega | exact Nat.le_refl _⟩, ⟨by repeat (first | (with_reducible first | exact HB.out | apply below_alloc | apply pw_below_drewN | apply below_drew1) | exact HB.out)⟩⟩
                  · replace c18 := Bool.eq_false_iff.mpr c18
                    subst c18
                    have H1 : (transeptlaw12_SafeCuts.j0 k t192 pt_ false) = some true := by rw [if_neg (show ¬ (false = true) by decide)] at H; exact H
                    clear H
                    have H := H1
                    clear H1
                    have H' := Aside0.mk H
                    clear H
                    go_wp2_with (first | ((with_reducible refine gate_callee (f := 12) rfl ?_); refine goesL_ (some 31) rfl rfl Tryd.func12 (by kernel_rfl) rfl #[.string (⟨#[97, 99, 99, 101, 112, 116]⟩ : ByteArray), .string a0] rfl (by (try simp only [List.map_toArray, List.map_cons, List.map_nil]); first | done | rfl | (simp only [List.length_drop, List.length_take]; rfl)) ?_; (with_reducible refine (Ext.safe_Header.calls (⟨#[97, 99, 99, 101, 112, 116]⟩ : ByteArray) a0 true _ ?side1 A13.out).mono ?_); (case side1 => exact Ext.tabs_at HT.out (by repeat (first | (with_reducible first | exact HB.out | apply below_alloc | apply pw_below_drewN | apply below_drew1) | exact HB.out))); rintro e w24 ⟨rfl, hb⟩; refine ⟨_, rfl, ?_⟩; have n0_ := Aside0.mk (below_step (by repeat (first | (with_reducible first | exact HB.out | apply below_alloc | apply pw_below_drewN | apply below_drew1) | exact HB.out)) hb); clear HB; have HB := n0_; clear n0_; (try clear hb); (try clear hb2); (try clear hk); (try clear hi)) | (go_at_call 12; (with_reducible refine (Ext.safe_Header.calls (⟨#[97, 99, 99, 101, 112, 116]⟩ : ByteArray) pt_ true _ ?side1 A15.out).mono ?_); (case side1 => exact Ext.tabs_at HT.out (by repeat (first | (with_reducible first | exact HB.out | apply below_alloc | apply pw_below_drewN | apply below_drew1) | exact HB.out))); rintro e w25 ⟨rfl, hb⟩; have n0_ := Aside0.mk (below_step (by repeat (first | (with_reducible first | exact HB.out | apply below_alloc | apply pw_below_drewN | apply below_drew1) | exact HB.out)) hb); clear HB; have HB := n0_; clear n0_; (try clear hb); (try clear hb2); (try clear hk); (try clear hi)) | (go_at_call 12; (with_reducible refine (Ext.safe_Header.calls (⟨#[97, 99, 99, 101, 112, 116, 45, 108, 97, 110, 103, 117, 97, 103, 101]⟩ : ByteArray) a0 false _ ?side1 A17.out).mono ?_); (case side1 => exact Ext.tabs_at HT.out (by repeat (first | (with_reducible first | exact HB.out | apply below_alloc | apply pw_below_drewN | apply below_drew1) | exact HB.out))); rintro e w26 ⟨rfl, hb⟩; have n0_ := Aside0.mk (below_step (by repeat (first | (with_reducible first | exact HB.out | apply below_alloc | apply pw_below_drewN | apply below_drew1) | exact HB.out)) hb); clear HB; have HB := n0_; clear n0_; (try clear hb); (try clear hb2); (try clear hk); (try clear hi)))
                    all_goals (try (exfalso; omega))
                    go_meet
                    case rel => exact ⟨_, (false), (by first | rfl | (simp; done) | (simp [*]; done) | (congr 1; unfold wrap64; omega) | (simp; simp only [decide_eq_false_iff_not, decide_eq_true_eq] at *; congr 2; omega)), H', ⟨by first | omega | exact Nat.le_refl _⟩, ⟨by repeat (first | (with_reducible first | exact HB.out | apply below_alloc | apply pw_below_drewN | apply below_drew1) | exact HB.out)⟩⟩
                · replace c16 := Bool.eq_false_iff.mpr c16
                  subst c16
                  have H1 : (transeptlaw12_SafeCuts.j0 k t192 pt_ true) = some true := by rw [if_neg (show ¬ (false = true) by decide)] at H; exact H
                  clear H
                  have H := H1
                  clear H1
                  have H' := Aside0.mk H
                  clear H
                  go_wp2_with (first | ((with_reducible refine gate_callee (f := 12) rfl ?_); refine goesL_ (some 31) rfl rfl Tryd.func12 (by kernel_rfl) rfl #[.string (⟨#[97, 99, 99, 101, 112, 116]⟩ : ByteArray), .string a0] rfl (by (try simp only [List.map_toArray, List.map_cons, List.map_nil]); first | done | rfl | (simp only [List.length_drop, List.length_take]; rfl)) ?_; (with_reducible refine (Ext.safe_Header.calls (⟨#[97, 99, 99, 101, 112, 116]⟩ : ByteArray) a0 true _ ?side1 A13.out).mono ?_); (case side1 => exact Ext.tabs_at HT.out (by repeat (first | (with_reducible first | exact HB.out | apply below_alloc | apply pw_below_drewN | apply below_drew1) | exact HB.out))); rintro e w27 ⟨rfl, hb⟩; refine ⟨_, rfl, ?_⟩; have n0_ := Aside0.mk (below_step (by repeat (first | (with_reducible first | exact HB.out | apply below_alloc | apply pw_below_drewN | apply below_drew1) | exact HB.out)) hb); clear HB; have HB := n0_; clear n0_; (try clear hb); (try clear hb2); (try clear hk); (try clear hi)) | (go_at_call 12; (with_reducible refine (Ext.safe_Header.calls (⟨#[97, 99, 99, 101, 112, 116]⟩ : ByteArray) pt_ false _ ?side1 A15.out).mono ?_); (case side1 => exact Ext.tabs_at HT.out (by repeat (first | (with_reducible first | exact HB.out | apply below_alloc | apply pw_below_drewN | apply below_drew1) | exact HB.out))); rintro e w28 ⟨rfl, hb⟩; have n0_ := Aside0.mk (below_step (by repeat (first | (with_reducible first | exact HB.out | apply below_alloc | apply pw_below_drewN | apply below_drew1) | exact HB.out)) hb); clear HB; have HB := n0_; clear n0_; (try clear hb); (try clear hb2); (try clear hk); (try clear hi)))
                  all_goals (try (exfalso; omega))
                  go_meet
                  case rel => exact ⟨_, (true), (by first | rfl | (simp; done) | (simp [*]; done) | (congr 1; unfold wrap64; omega) | (simp; simp only [decide_eq_false_iff_not, decide_eq_true_eq] at *; congr 2; omega)), H', ⟨by first | omega | exact Nat.le_refl _⟩, ⟨by repeat (first | (with_reducible first | exact HB.out | apply below_alloc | apply pw_below_drewN | apply below_drew1) | exact HB.out)⟩⟩
              · replace c14 := Bool.eq_false_iff.mpr c14
                subst c14
                have H1 : ((Ext.safe_Header.f (⟨#[97, 99, 99, 101, 112, 116, 45, 108, 97, 110, 103, 117, 97, 103, 101]⟩ : ByteArray) a0).bind fun t197 => (if t197 = true then ((Ext.safe_Header.f (⟨#[99, 111, 110, 116, 101, 110, 116, 45, 108, 97, 110, 103, 117, 97, 103, 101]⟩ : ByteArray) pt_).bind fun t198 => (transeptlaw12_SafeCuts.j0 k t192 pt_ (!t198))) else (transeptlaw12_SafeCuts.j0 k t192 pt_ false))) = some true := by rw [if_neg (show ¬ (false = true) by decide)] at H; exact H
                clear H
                have H := H1
                clear H1
                replace H := Option.bind_eq_some_iff.mp H
                obtain ⟨t197, A290, H⟩ := H
                replace H : (if t197 = true then ((Ext.safe_Header.f (⟨#[99, 111, 110, 116, 101, 110, 116, 45, 108, 97, 110, 103, 117, 97, 103, 101]⟩ : ByteArray) pt_).bind fun t198 => (transeptlaw12_SafeCuts.j0 k t192 pt_ (!t198))) else (transeptlaw12_SafeCuts.j0 k t192 pt_ false)) = some true := H
                have A29 := Aside0.mk A290
                clear A290
                by_cases c30 : t197 = true
                · subst c30
                  have H1 : ((Ext.safe_Header.f (⟨#[99, 111, 110, 116, 101, 110, 116, 45, 108, 97, 110, 103, 117, 97, 103, 101]⟩ : ByteArray) pt_).bind fun t198 => (transeptlaw12_SafeCuts.j0 k t192 pt_ (!t198))) = some true := by rw [if_pos rfl] at H; exact H
                  clear H
                  have H := H1
                  clear H1
                  replace H := Option.bind_eq_some_iff.mp H
                  obtain ⟨t198, A310, H⟩ := H
                  replace H : (transeptlaw12_SafeCuts.j0 k t192 pt_ (!t198)) = some true := H
                  have A31 := Aside0.mk A310
                  clear A310
                  have H' := Aside0.mk H
                  clear H
                  go_wp2_with (first | ((with_reducible refine gate_callee (f := 12) rfl ?_); refine goesL_ (some 31) rfl rfl Tryd.func12 (by kernel_rfl) rfl #[.string (⟨#[97, 99, 99, 101, 112, 116]⟩ : ByteArray), .string a0] rfl (by (try simp only [List.map_toArray, List.map_cons, List.map_nil]); first | done | rfl | (simp only [List.length_drop, List.length_take]; rfl)) ?_; (with_reducible refine (Ext.safe_Header.calls (⟨#[97, 99, 99, 101, 112, 116]⟩ : ByteArray) a0 false _ ?side1 A13.out).mono ?_); (case side1 => exact Ext.tabs_at HT.out (by repeat (first | (with_reducible first | exact HB.out | apply below_alloc | apply pw_below_drewN | apply below_drew1) | exact HB.out))); rintro e w32 ⟨rfl, hb⟩; refine ⟨_, rfl, ?_⟩; have n0_ := Aside0.mk (below_step (by repeat (first | (with_reducible first | exact HB.out | apply below_alloc | apply pw_below_drewN | apply below_drew1) | exact HB.out)) hb); clear HB; have HB := n0_; clear n0_; (try clear hb); (try clear hb2); (try clear hk); (try clear hi)) | (go_at_call 12; (with_reducible refine (Ext.safe_Header.calls (⟨#[97, 99, 99, 101, 112, 116, 45, 108, 97, 110, 103, 117, 97, 103, 101]⟩ : ByteArray) a0 true _ ?side1 A29.out).mono ?_); (case side1 => exact Ext.tabs_at HT.out (by repeat (first | (with_reducible first | exact HB.out | apply below_alloc | apply pw_below_drewN | apply below_drew1) | exact HB.out))); rintro e w33 ⟨rfl, hb⟩; have n0_ := Aside0.mk (below_step (by repeat (first | (with_reducible first | exact HB.out | apply below_alloc | apply pw_below_drewN | apply below_drew1) | exact HB.out)) hb); clear HB; have HB := n0_; clear n0_; (try clear hb); (try clear hb2); (try clear hk); (try clear hi)) | (go_at_call 12; (with_reducible refine (Ext.safe_Header.calls (⟨#[99, 111, 110, 116, 101, 110, 116, 45, 108, 97, 110, 103, 117, 97, 103, 101]⟩ : ByteArray) pt_ t198 _ ?side1 A31.out).mono ?_); (case side1 => exact Ext.tabs_at HT.out (by repeat (first | (with_reducible first | exact HB.out | apply below_alloc | apply pw_below_drewN | apply below_drew1) | exact HB.out))); rintro e w34 ⟨rfl, hb⟩; have n0_ := Aside0.mk (below_step (by repeat (first | (with_reducible first | exact HB.out | apply below_alloc | apply pw_below_drewN | apply below_drew1) | exact HB.out)) hb); clear HB; have HB := n0_; clear n0_; (try clear hb); (try clear hb2); (try clear hk); (try clear hi)))
                  all_goals (try (exfalso; omega))
                  go_meet
                  case rel => exact ⟨_, (!t198), (by first | rfl | (simp; done) | (simp [*]; done) | (congr 1; unfold wrap64; omega) | (simp; simp only [decide_eq_false_iff_not, decide_eq_true_eq] at *; congr 2; omega)), H', ⟨by first | omega | exact Nat.le_refl _⟩, ⟨by repeat (first | (with_reducible first | exact HB.out | apply below_alloc | apply pw_below_drewN | apply below_drew1) | exact HB.out)⟩⟩
                · replace c30 := Bool.eq_false_iff.mpr c30
                  subst c30
                  have H1 : (transeptlaw12_SafeCuts.j0 k t192 pt_ false) = some true := by rw [if_neg (show ¬ (false = true) by decide)] at H; exact H
                  clear H
                  have H := H1
                  clear H1
                  have H' := Aside0.mk H
                  clear H
                  go_wp2_with (first | ((with_reducible refine gate_callee (f := 12) rfl ?_); refine goesL_ (some 31) rfl rfl Tryd.func12 (by kernel_rfl) rfl #[.string (⟨#[97, 99, 99, 101, 112, 116]⟩ : ByteArray), .string a0] rfl (by (try simp only [List.map_toArray, List.map_cons, List.map_nil]); first | done | rfl | (simp only [List.length_drop, List.length_take]; rfl)) ?_; (with_reducible refine (Ext.safe_Header.calls (⟨#[97, 99, 99, 101, 112, 116]⟩ : ByteArray) a0 false _ ?side1 A13.out).mono ?_); (case side1 => exact Ext.tabs_at HT.out (by repeat (first | (with_reducible first | exact HB.out | apply below_alloc | apply pw_below_drewN | apply below_drew1) | exact HB.out))); rintro e w35 ⟨rfl, hb⟩; refine ⟨_, rfl, ?_⟩; have n0_ := Aside0.mk (below_step (by repeat (first | (with_reducible first | exact HB.out | apply below_alloc | apply pw_below_drewN | apply below_drew1) | exact HB.out)) hb); clear HB; have HB := n0_; clear n0_; (try clear hb); (try clear hb2); (try clear hk); (try clear hi)) | (go_at_call 12; (with_reducible refine (Ext.safe_Header.calls (⟨#[97, 99, 99, 101, 112, 116, 45, 108, 97, 110, 103, 117, 97, 103, 101]⟩ : ByteArray) a0 false _ ?side1 A29.out).mono ?_); (case side1 => exact Ext.tabs_at HT.out (by repeat (first | (with_reducible first | exact HB.out | apply below_alloc | apply pw_below_drewN | apply below_drew1) | exact HB.out))); rintro e w36 ⟨rfl, hb⟩; have n0_ := Aside0.mk (below_step (by repeat (first | (with_reducible first | exact HB.out | apply below_alloc | apply pw_below_drewN | apply below_drew1) | exact HB.out)) hb); clear HB; have HB := n0_; clear n0_; (try clear hb); (try clear hb2); (try clear hk); (try clear hi)))
                  all_goals (try (exfalso; omega))
                  go_meet
                  case rel => exact ⟨_, (false), (by first | rfl | (simp; done) | (simp [*]; done) | (congr 1; unfold wrap64; omega) | (simp; simp only [decide_eq_false_iff_not, decide_eq_true_eq] at *; congr 2; omega)), H', ⟨by first | omega | exact Nat.le_refl _⟩, ⟨by repeat (first | (with_reducible first | exact HB.out | apply below_alloc | apply pw_below_drewN | apply below_drew1) | exact HB.out)⟩⟩
            case rest =>
              clear HC11
              try clear c1
              try clear p2
              try clear c3
              try clear c5
              try clear c5b0
              try clear c5b1
              try clear c6
              try clear c6b0
              try clear c6b1
              try clear p6
              try clear c8
              try clear c8b0
              try clear c8b1
              try clear c9
              try clear c9b0
              try clear c9b1
              try clear c10
              try clear c10b0
              try clear c10b1
              try clear c12
              try clear c14
              try clear c16
              try clear c18
              try clear c30
              obtain ⟨kq, x45_10, rfl, HA, HJ10, HB⟩ := hcut
              cases kq with
              | zero => exact absurd HA.out (by simp [transeptlaw12_SafeCuts.j0])
              | succ kj10 =>
                have H := HA.out
                clear HA
                simp only [transeptlaw12_SafeCuts.j0] at H
                by_cases c37 : x45_10 = true
                · subst c37
                  have H1 : (some false) = some true := by rw [if_pos rfl] at H; exact H
                  clear H
                  have H := H1
                  clear H1
                  exact absurd (Option.some.inj H) (by decide)
                · replace c37 := Bool.eq_false_iff.mpr c37
                  subst c37
                  have H1 : (if t192 = true then (if pt_.size + 1 ≤ 9223372036854775807 then ((Ext.safe_Header.f (⟨#[97, 99, 99, 101, 112, 116]⟩ : ByteArray) (pt_ ++ (⟨#[40]⟩ : ByteArray))).bind fun t199 => (if t199 = true then (some false) else ((Ext.safe_Header.f (⟨#[99, 111, 110, 116, 101, 110, 116, 45, 116, 121, 112, 101]⟩ : ByteArray) (pt_ ++ (⟨#[123]⟩ : ByteArray))).bind fun t200 => (if t200 = true then (some false) else ((Ext.safe_Header.f (⟨#[114, 97, 110, 103, 101]⟩ : ByteArray) (pt_ ++ (⟨#[34]⟩ : ByteArray))).bind fun t201 => (if t201 = true then (some false) else ((Ext.safe_Header.f (⟨#[99, 111, 110, 116, 101, 110, 116, 45, 108, 97, 110, 103, 117, 97, 103, 101]⟩ : ByteArray) (pt_ ++ (⟨#[64]⟩ : ByteArray))).bind fun t202 => (some (!t202))))))))) else (none)) else (some false)) = some true := by rw [if_neg (show ¬ (false = true) by decide)] at H; exact H
                  clear H
                  have H := H1
                  clear H1
                  by_cases c38 : t192 = true
                  · subst c38
                    have H1 : (if pt_.size + 1 ≤ 9223372036854775807 then ((Ext.safe_Header.f (⟨#[97, 99, 99, 101, 112, 116]⟩ : ByteArray) (pt_ ++ (⟨#[40]⟩ : ByteArray))).bind fun t199 => (if t199 = true then (some false) else ((Ext.safe_Header.f (⟨#[99, 111, 110, 116, 101, 110, 116, 45, 116, 121, 112, 101]⟩ : ByteArray) (pt_ ++ (⟨#[123]⟩ : ByteArray))).bind fun t200 => (if t200 = true then (some false) else ((Ext.safe_Header.f (⟨#[114, 97, 110, 103, 101]⟩ : ByteArray) (pt_ ++ (⟨#[34]⟩ : ByteArray))).bind fun t201 => (if t201 = true then (some false) else ((Ext.safe_Header.f (⟨#[99, 111, 110, 116, 101, 110, 116, 45, 108, 97, 110, 103, 117, 97, 103, 101]⟩ : ByteArray) (pt_ ++ (⟨#[64]⟩ : ByteArray))).bind fun t202 => (some (!t202))))))))) else (none)) = some true := by rw [if_pos rfl] at H; exact H
                    clear H
                    have H := H1
                    clear H1
                    by_cases c39 : pt_.size + 1 ≤ 9223372036854775807
                    · rw [if_pos c39] at H
                      have c39b0 := eq_true c39
                      have c39b1 : decide (pt_.size + 1 ≤ 9223372036854775807) = true := decide_eq_true c39
                      try have c39b2 : (9223372036854775807 < pt_.size + 1) = False := eq_false (Nat.not_lt.2 c39)
                      replace H := Option.bind_eq_some_iff.mp H
                      obtain ⟨t199, A400, H⟩ := H
                      replace H : (if t199 = true then (some false) else ((Ext.safe_Header.f (⟨#[99, 111, 110, 116, 101, 110, 116, 45, 116, 121, 112, 101]⟩ : ByteArray) (pt_ ++ (⟨#[123]⟩ : ByteArray))).bind fun t200 => (if t200 = true then (some false) else ((Ext.safe_Header.f (⟨#[114, 97, 110, 103, 101]⟩ : ByteArray) (pt_ ++ (⟨#[34]⟩ : ByteArray))).bind fun t201 => (if t201 = true then (some false) else ((Ext.safe_Header.f (⟨#[99, 111, 110, 116, 101, 110, 116, 45, 108, 97, 110, 103, 117, 97, 103, 101]⟩ : ByteArray) (pt_ ++ (⟨#[64]⟩ : ByteArray))).bind fun t202 => (some (!t202)))))))) = some true := H
                      have A40 := Aside0.mk A400
                      clear A400
                      by_cases c41 : t199 = true
                      · subst c41
                        have H1 : (some false) = some true := by rw [if_pos rfl] at H; exact H
                        clear H
                        have H := H1
                        clear H1
                        exact absurd (Option.some.inj H) (by decide)
                      · replace c41 := Bool.eq_false_iff.mpr c41
                        subst c41
                        have H1 : ((Ext.safe_Header.f (⟨#[99, 111, 110, 116, 101, 110, 116, 45, 116, 121, 112, 101]⟩ : ByteArray) (pt_ ++ (⟨#[123]⟩ : ByteArray))).bind fun t200 => (if t200 = true then (some false) else ((Ext.safe_Header.f (⟨#[114, 97, 110, 103, 101]⟩ : ByteArray) (pt_ ++ (⟨#[34]⟩ : ByteArray))).bind fun t201 => (if t201 = true then (some false) else ((Ext.safe_Header.f (⟨#[99, 111, 110, 116, 101, 110, 116, 45, 108, 97, 110, 103, 117, 97, 103, 101]⟩ : ByteArray) (pt_ ++ (⟨#[64]⟩ : ByteArray))).bind fun t202 => (some (!t202))))))) = some true := by rw [if_neg (show ¬ (false = true) by decide)] at H; exact H
                        clear H
                        have H := H1
                        clear H1
                        replace H := Option.bind_eq_some_iff.mp H
                        obtain ⟨t200, A430, H⟩ := H
                        replace H : (if t200 = true then (some false) else ((Ext.safe_Header.f (⟨#[114, 97, 110, 103, 101]⟩ : ByteArray) (pt_ ++ (⟨#[34]⟩ : ByteArray))).bind fun t201 => (if t201 = true then (some false) else ((Ext.safe_Header.f (⟨#[99, 111, 110, 116, 101, 110, 116, 45, 108, 97, 110, 103, 117, 97, 103, 101]⟩ : ByteArray) (pt_ ++ (⟨#[64]⟩ : ByteArray))).bind fun t202 => (some (!t202)))))) = some true := H
                        have A43 := Aside0.mk A430
                        clear A430
                        by_cases c44 : t200 = true
                        · subst c44
                          have H1 : (some false) = some true := by rw [if_pos rfl] at H; exact H
                          clear H
                          have H := H1
                          clear H1
                          exact absurd (Option.some.inj H) (by decide)
                        · replace c44 := Bool.eq_false_iff.mpr c44
                          subst c44
                          have H1 : ((Ext.safe_Header.f (⟨#[114, 97, 110, 103, 101]⟩ : ByteArray) (pt_ ++ (⟨#[34]⟩ : ByteArray))).bind fun t201 => (if t201 = true then (some false) else ((Ext.safe_Header.f (⟨#[99, 111, 110, 116, 101, 110, 116, 45, 108, 97, 110, 103, 117, 97, 103, 101]⟩ : ByteArray) (pt_ ++ (⟨#[64]⟩ : ByteArray))).bind fun t202 => (some (!t202))))) = some true := by rw [if_neg (show ¬ (false = true) by decide)] at H; exact H
                          clear H
                          have H := H1
                          clear H1
                          replace H := Option.bind_eq_some_iff.mp H
                          obtain ⟨t201, A470, H⟩ := H
                          replace H : (if t201 = true then (some false) else ((Ext.safe_Header.f (⟨#[99, 111, 110, 116, 101, 110, 116, 45, 108, 97, 110, 103, 117, 97, 103, 101]⟩ : ByteArray) (pt_ ++ (⟨#[64]⟩ : ByteArray))).bind fun t202 => (some (!t202)))) = some true := H
                          have A47 := Aside0.mk A470
                          clear A470
                          by_cases c48 : t201 = true
                          · subst c48
                            have H1 : (some false) = some true := by rw [if_pos rfl] at H; exact H
                            clear H
                            have H := H1
                            clear H1
                            exact absurd (Option.some.inj H) (by decide)
                          · replace c48 := Bool.eq_false_iff.mpr c48
                            subst c48
                            have H1 : ((Ext.safe_Header.f (⟨#[99, 111, 110, 116, 101, 110, 116, 45, 108, 97, 110, 103, 117, 97, 103, 101]⟩ : ByteArray) (pt_ ++ (⟨#[64]⟩ : ByteArray))).bind fun t202 => (some (!t202))) = some true := by rw [if_neg (show ¬ (false = true) by decide)] at H; exact H
                            clear H
                            have H := H1
                            clear H1
                            replace H := Option.bind_eq_some_iff.mp H
                            obtain ⟨t202, A520, H⟩ := H
                            replace H : (some (!t202)) = some true := H
                            have A52 := Aside0.mk A520
                            clear A520
                            first | (revert H; simp only [Option.some.injEq, Bool.false_eq_true, false_implies]; done) | (have hv_ := Option.some.inj H)
                            all_goals go_wp2_with (first | (go_at_call 12; (with_reducible refine (Ext.safe_Header.calls (⟨#[97, 99, 99, 101, 112, 116]⟩ : ByteArray) (pt_ ++ (⟨#[40]⟩ : ByteArray)) false _ ?side1 A40.out).mono ?_); (case side1 => exact Ext.tabs_at HT.out (by repeat (first | (with_reducible first | exact HB.out | apply below_alloc | apply pw_below_drewN | apply below_drew1) | exact HB.out))); rintro e w53 ⟨rfl, hb⟩; have n0_ := Aside0.mk (below_step (by repeat (first | (with_reducible first | exact HB.out | apply below_alloc | apply pw_below_drewN | apply below_drew1) | exact HB.out)) hb); clear HB; have HB := n0_; clear n0_; (try clear hb); (try clear hb2); (try clear hk); (try clear hi)) | (go_at_call 12; (with_reducible refine (Ext.safe_Header.calls (⟨#[99, 111, 110, 116, 101, 110, 116, 45, 116, 121, 112, 101]⟩ : ByteArray) (pt_ ++ (⟨#[123]⟩ : ByteArray)) false _ ?side1 A43.out).mono ?_); (case side1 => exact Ext.tabs_at HT.out (by repeat (first | (with_reducible first | exact HB.out | apply below_alloc | apply pw_below_drewN | apply below_drew1) | exact HB.out))); rintro e w54 ⟨rfl, hb⟩; have n0_ := Aside0.mk (below_step (by repeat (first | (with_reducible first | exact HB.out | apply below_alloc | apply pw_below_drewN | apply below_drew1) | exact HB.out)) hb); clear HB; have HB := n0_; clear n0_; (try clear hb); (try clear hb2); (try clear hk); (try clear hi)) | (go_at_call 12; (with_reducible refine (Ext.safe_Header.calls (⟨#[114, 97, 110, 103, 101]⟩ : ByteArray) (pt_ ++ (⟨#[34]⟩ : ByteArray)) false _ ?side1 A47.out).mono ?_); (case side1 => exact Ext.tabs_at HT.out (by repeat (first | (with_reducible first | exact HB.out | apply below_alloc | apply pw_below_drewN | apply below_drew1) | exact HB.out))); rintro e w55 ⟨rfl, hb⟩; have n0_ := Aside0.mk (below_step (by repeat (first | (with_reducible first | exact HB.out | apply below_alloc | apply pw_below_drewN | apply below_drew1) | exact HB.out)) hb); clear HB; have HB := n0_; clear n0_; (try clear hb); (try clear hb2); (try clear hk); (try clear hi)) | (go_at_call 12; (with_reducible refine (Ext.safe_Header.calls (⟨#[99, 111, 110, 116, 101, 110, 116, 45, 108, 97, 110, 103, 117, 97, 103, 101]⟩ : ByteArray) (pt_ ++ (⟨#[64]⟩ : ByteArray)) t202 _ ?side1 A52.out).mono ?_); (case side1 => exact Ext.tabs_at HT.out (by repeat (first | (with_reducible first | exact HB.out | apply below_alloc | apply pw_below_drewN | apply below_drew1) | exact HB.out))); rintro e w56 ⟨rfl, hb⟩; have n0_ := Aside0.mk (below_step (by repeat (first | (with_reducible first | exact HB.out | apply below_alloc | apply pw_below_drewN | apply below_drew1) | exact HB.out)) hb); clear HB; have HB := n0_; clear n0_; (try clear hb); (try clear hb2); (try clear hk); (try clear hi)))
                            all_goals (try (exfalso; omega))
                            all_goals go_ret
                            all_goals exact ⟨by first | rfl | (simp [errW_none, errW_some] <;> rfl) | (simp only [← hji7]; first | rfl | (simp [errW_none, errW_some] <;> rfl)) | (simp [*, errW_none, errW_some] <;> rfl) | (exfalso; simp_all; done), by repeat (first | (with_reducible first | exact HB.out | apply below_alloc | apply pw_below_drewN | apply below_drew1) | exact HB.out)⟩
                    · rw [if_neg c39] at H
                      exact absurd H (by simp)
                  · replace c38 := Bool.eq_false_iff.mpr c38
                    subst c38
                    have H1 : (some false) = some true := by rw [if_neg (show ¬ (false = true) by decide)] at H; exact H
                    clear H
                    have H := H1
                    clear H1
                    exact absurd (Option.some.inj H) (by decide)
          · rw [if_neg c10] at H
            exact absurd H (by simp)
        · rw [if_neg c9] at H
          exact absurd H (by simp)
      · rw [if_neg c8] at H
        exact absurd H (by simp)

end Go.Proofs.YtikhboebmmmopaaDoor.Fun
