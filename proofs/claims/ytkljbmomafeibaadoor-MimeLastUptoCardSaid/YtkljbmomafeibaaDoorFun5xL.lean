-- Written by xprint.py, a program of this session's, by means of the kit's print. Not trusted: Lean checks it.
import Derived.Test.YtkljbmomafeibaaDoorFun0
import Derived.Test.YtkljbmomafeibaaDoorFun1xL
import Derived.Test.YtkljbmomafeibaaDoorFun2xL
import Derived.Test.YtkljbmomafeibaaDoorFun4xL
namespace Go.Proofs.YtkljbmomafeibaaDoor.Fun
open Go.RowKit Go.Proofs.YtkljbmomafeibaaDoorW.PrintWords Go.Proofs.YtkljbmomafeibaaDoorW.PrintLast Go.Proofs.YtkljbmomafeibaaDoorW.PrintMore
attribute [local go_sem] max2_int min2_int max_two min_two max_three min_three max_four min_four   -- for this text's walks alone
set_option linter.unusedVariables false
set_option linter.unusedSimpArgs false

/-! ### transeptref11_Of: function 11 -/
def transeptref11_Of.l0 : Nat → List ByteArray → ByteArray → Int → Option (ByteArray × Bool)
  | 0, _, _, _ => none
  | k + 1, x4, x6, x7 => if x7 < (x4.length : Int) then (if 0 ≤ x7 then ((transeptref11_Essence.f k (rdOf ByteArray.empty x4 x7)).bind fun bt225 => (if bt225.2 = true then (if bt225.1.toList = ([42, 47, 42] : List UInt8) then (transeptref11_Of.l0 k x4 x6 (wrap64 (x7 + 1))) else (transeptref11_Of.l0 k x4 bt225.1 (wrap64 (x7 + 1)))) else (transeptref11_Of.l0 k x4 x6 (wrap64 (x7 + 1))))) else (none)) else (some (x6, (x6.toList != ([] : List UInt8))))
def transeptref11_Of.f (k : Nat) (l0 : List (S48)) : Option (ByteArray × Bool) := (transeptref10_Split.f k l0 (⟨#[99, 111, 110, 116, 101, 110, 116, 45, 116, 121, 112, 101]⟩ : ByteArray)).bind fun bt220 => (transeptref11_Of.l0 k bt220.1 (⟨#[]⟩ : ByteArray) 0)
/-! ### transeptlaw11_of: function 12 -/
def transeptlaw11_of.l0 : Nat → List (S35) → List (S48) → Int → Option ((List (S48)))
  | 0, _, _, _ => none
  | k + 1, x0, x3, x4 => if x4 < (x0.length : Int) then (if x4 < 100 then (if 0 ≤ x4 then (if x3.length < 4398046511104 then (transeptlaw11_of.l0 k x0 (x3 ++ [(⟨(rd_T35 x0 x4).f0, (rd_T35 x0 x4).f1⟩ : S48)]) (wrap64 (x4 + 1))) else (none)) else (none)) else (some x3)) else (some x3)
def transeptlaw11_of.f (k : Nat) (l0 : List (S35)) : Option ((List (S48))) := transeptlaw11_of.l0 k l0 ([] : List (S48)) 0
/-! ### transeptlaw11_MimeTells: function 3 -/
def transeptlaw11_MimeTells.f (k : Nat) (a0 : ByteArray) (l1 : List (S35)) : Option (Bool) := (transeptlaw11_shown.f k).bind fun t232 => ((mime_Essence.f a0).bind fun bt233 => ((transeptref11_Essence.f k a0).bind fun bt235 => (if 0 ≤ (mn (l1.length : Int) 100) then (if (mn (l1.length : Int) 100) ≤ (l1.length : Int) then ((some (l1.take ((mn (l1.length : Int) 100) : Int).toNat : List (S35))).bind fun y237 => ((mime_Of.f k y237).bind fun bt241 => ((transeptlaw11_of.f k y237).bind fun t243 => ((transeptref11_Of.f k t243).bind fun bt246 => (if t232 = true then (if bt233.1.toList = bt235.1.toList then (if (bt233.2 == bt235.2) = true then (if bt241.1.toList = bt246.1.toList then (some (bt241.2 == bt246.2)) else (some false)) else (some false)) else (some false)) else (some false)))))) else (none)) else (none))))
/-! ### transeptlaw11_quoted: function 14 -/
def transeptlaw11_quoted.l0 : Nat → ByteArray → Int → Option (Bool)
  | 0, _, _ => none
  | k + 1, x0, x3 => if x3 < (x0.size : Int) then (if 0 ≤ x3 then (if (bt x0 x3) = 44 then (some true) else (if (bt x0 x3) = 34 then (some true) else (transeptlaw11_quoted.l0 k x0 (wrap64 (x3 + 1))))) else (none)) else (some false)
def transeptlaw11_quoted.f (k : Nat) (a0 : ByteArray) : Option (Bool) := transeptlaw11_quoted.l0 k a0 0
set_option maxHeartbeats 8000000 in
set_option maxRecDepth 100000 in
theorem transeptlaw11_quoted.calls (k : Nat) (a0 : ByteArray) (r : Bool) (w : World) (h : transeptlaw11_quoted.f k a0 = some r) :
    Calls Tryd.prog 14 #[.string a0] w fun e w' => e = .returned (.bool r) ∧ Drawn0 w w' := by
  have H : (transeptlaw11_quoted.l0 k a0 0) = some r := h
  clear h
  have H' := Aside0.mk H
  clear H
  go_enter Tryd.func14, Tryd.ntmps14
  go_wp2
  all_goals (try (exfalso; omega))
  go_loopg [3] k (fun kq v3 w' => ∃ (x3_1 : Int), v3 = .int .i64 x3_1 ∧ Aside0 (transeptlaw11_quoted.l0 kq a0 x3_1 = some r) ∧ Aside0 (kq ≤ k) ∧ Drawn0 w w')
  case atStart => exact ⟨(0), (by first | rfl | (simp; done) | (simp [*]; done) | (congr 1; unfold wrap64; omega) | (simp; simp only [decide_eq_false_iff_not, decide_eq_true_eq] at *; congr 2; omega)), H', ⟨Nat.le_refl _⟩, by repeat (first | exact Drawn0.refl _ | apply Drawn0.step)⟩
  case round =>
    clear H'
    try clear c1
    obtain ⟨x3_1, rfl, HA, HK1, ⟨m1, rfl⟩⟩ := hrel
    cases gk with
    | zero => exact absurd HA.out (by simp [transeptlaw11_quoted.l0])
    | succ k1 =>
      have H := HA.out
      clear HA
      simp only [transeptlaw11_quoted.l0] at H
      by_cases c2 : x3_1 < (a0.size : Int)
      · rw [if_pos c2] at H
        have c2b0 : decide (x3_1 < (a0.size : Int)) = true := decide_eq_true c2
        by_cases c3 : 0 ≤ x3_1
        · rw [if_pos c3] at H
          have c3b0 : decide (0 ≤ x3_1) = true := decide_eq_true c3
          by_cases c5 : (bt a0 x3_1) = 44
          · rw [if_pos c5] at H
            have c5b0 : ((bt a0 x3_1) == 44) = true := beq_iff_eq.mpr c5
            have c5b1 : ((bt a0 x3_1) != 44) = false := bne_eq_false_iff_eq.mpr c5
            clear c5
            obtain rfl := Option.some.inj H
            have p4 : 0 ≤ (x3_1 : Int) := of_decide_eq_true (by first | (with_reducible assumption) | assumption)
            have q4 : x3_1 < (a0.size : Int) := of_decide_eq_true (by first | (with_reducible assumption) | assumption)
            have hx4 := bt_at a0 x3_1
            replace p4 := eq_true p4
            replace q4 := eq_true q4
            go_wp2
            all_goals (try (exfalso; omega))
            all_goals go_ret
            all_goals exact ⟨by first | rfl | (simp; done) | (simp [*]; done) | (simp [Ext.ne_nil_empty]; done), by repeat (first | exact Drawn0.refl _ | apply Drawn0.step)⟩
          · rw [if_neg c5] at H
            have c5b0 : ((bt a0 x3_1) == 44) = false := beq_eq_false_iff_ne.mpr c5
            have c5b1 : ((bt a0 x3_1) != 44) = true := bne_iff_ne.mpr c5
            by_cases c7 : (bt a0 x3_1) = 34
            · rw [if_pos c7] at H
              have c7b0 : ((bt a0 x3_1) == 34) = true := beq_iff_eq.mpr c7
              have c7b1 : ((bt a0 x3_1) != 34) = false := bne_eq_false_iff_eq.mpr c7
              clear c7
              obtain rfl := Option.some.inj H
              have p4 : 0 ≤ (x3_1 : Int) := of_decide_eq_true (by first | (with_reducible assumption) | assumption)
              have q4 : x3_1 < (a0.size : Int) := of_decide_eq_true (by first | (with_reducible assumption) | assumption)
              have hx4 := bt_at a0 x3_1
              replace p4 := eq_true p4
              replace q4 := eq_true q4
              have p6 : 0 ≤ (x3_1 : Int) := of_decide_eq_true (by first | (with_reducible assumption) | assumption)
              have q6 : x3_1 < (a0.size : Int) := of_decide_eq_true (by first | (with_reducible assumption) | assumption)
              have hx6 := bt_at a0 x3_1
              replace p6 := eq_true p6
              replace q6 := eq_true q6
              go_wp2
              all_goals (try (exfalso; omega))
              all_goals go_ret
              all_goals exact ⟨by first | rfl | (simp; done) | (simp [*]; done) | (simp [Ext.ne_nil_empty]; done), by repeat (first | exact Drawn0.refl _ | apply Drawn0.step)⟩
            · rw [if_neg c7] at H
              have c7b0 : ((bt a0 x3_1) == 34) = false := beq_eq_false_iff_ne.mpr c7
              have c7b1 : ((bt a0 x3_1) != 34) = true := bne_iff_ne.mpr c7
              have H' := Aside0.mk H
              clear H
              have p4 : 0 ≤ (x3_1 : Int) := of_decide_eq_true (by first | (with_reducible assumption) | assumption)
              have q4 : x3_1 < (a0.size : Int) := of_decide_eq_true (by first | (with_reducible assumption) | assumption)
              have hx4 := bt_at a0 x3_1
              replace p4 := eq_true p4
              replace q4 := eq_true q4
              have p6 : 0 ≤ (x3_1 : Int) := of_decide_eq_true (by first | (with_reducible assumption) | assumption)
              have q6 : x3_1 < (a0.size : Int) := of_decide_eq_true (by first | (with_reducible assumption) | assumption)
              have hx6 := bt_at a0 x3_1
              replace p6 := eq_true p6
              replace q6 := eq_true q6
              go_wp2
              all_goals (try (exfalso; omega))
              go_roundg k1
              case measure => have := HK1.out; omega
              case rel => exact ⟨(wrap64 (x3_1 + 1)), (by first | rfl | (simp; done) | (simp [*]; done) | (congr 1; unfold wrap64; omega) | (simp; simp only [decide_eq_false_iff_not, decide_eq_true_eq] at *; congr 2; omega)), H', ⟨by have := HK1.out; omega⟩, by repeat (first | exact Drawn0.refl _ | apply Drawn0.step)⟩
        · rw [if_neg c3] at H
          exact absurd H (by simp)
      · rw [if_neg c2] at H
        have c2b0 : decide (x3_1 < (a0.size : Int)) = false := decide_eq_false c2
        obtain rfl := Option.some.inj H
        go_wp2
        all_goals (try (exfalso; omega))
        all_goals go_ret
        all_goals exact ⟨by first | rfl | (simp; done) | (simp [*]; done) | (simp [Ext.ne_nil_empty]; done), by repeat (first | exact Drawn0.refl _ | apply Drawn0.step)⟩

-- NOT PRINTED: function 5 (transeptlaw11_MimeLast)

end Go.Proofs.YtkljbmomafeibaaDoor.Fun
