-- Written by xprint.py, a program of this session's, by means of the kit's print. Not trusted: Lean checks it.
import Derived.Test.YtkljbmomafeibaaDoorFun0
import Derived.Test.YtkljbmomafeibaaDoorFun3xL
namespace Go.Proofs.YtkljbmomafeibaaDoor.Fun
open Go.RowKit Go.Proofs.YtkljbmomafeibaaDoorW.PrintWords Go.Proofs.YtkljbmomafeibaaDoorW.PrintLast Go.Proofs.YtkljbmomafeibaaDoorW.PrintMore
attribute [local go_sem] max2_int min2_int max_two min_two max_three min_three max_four min_four   -- for this text's walks alone
set_option linter.unusedVariables false
set_option linter.unusedSimpArgs false

/-! ### transeptref11_Essence: function 9 -/
def transeptref11_Essence.j0 : Nat → ByteArray → ByteArray → Bool → Option (ByteArray × Bool)
  | 0, _, _, _ => none
  | k + 1, x7, x8, x38 => if x38 = true then (some ((⟨#[]⟩ : ByteArray), false)) else ((transeptref09_Lower.f x7).bind fun t187 => (if t187.size + 1 ≤ 9223372036854775807 then ((transeptref09_Lower.f x8).bind fun t188 => (if (t187 ++ (⟨#[47]⟩ : ByteArray)).size + t188.size ≤ 9223372036854775807 then (some ((t187 ++ (⟨#[47]⟩ : ByteArray)) ++ t188, true)) else (none))) else (none)))
def transeptref11_Essence.f (k : Nat) (a0 : ByteArray) : Option (ByteArray × Bool) := (transeptref11_until.f k a0 59).bind fun bt178 => ((transeptref09_Trim.f k bt178.1).bind fun t181 => ((transeptref11_until.f k t181 47).bind fun bt182 => ((transeptref09_Name.f k bt182.1).bind fun t185 => ((transeptref09_Name.f k bt182.2.1).bind fun t186 => (if bt182.2.2 = true then (if t185 = true then (transeptref11_Essence.j0 k bt182.1 bt182.2.1 (!t186)) else (transeptref11_Essence.j0 k bt182.1 bt182.2.1 true)) else (transeptref11_Essence.j0 k bt182.1 bt182.2.1 true))))))
/-! ### transeptref10_All: function 52 -/
def transeptref10_All.l0 : Nat → List (S48) → ByteArray → List ByteArray → Int → Option (List ByteArray)
  | 0, _, _, _, _ => none
  | k + 1, x0, x1, x5, x6 => if x6 < (x0.length : Int) then (if 0 ≤ x6 then ((transeptref09_Lower.f ((rd_T48 x0 x6).f0)).bind fun t193 => ((transeptref09_Lower.f x1).bind fun t194 => (if t193.toList = t194.toList then (if x5.length < 8796093022208 then (transeptref10_All.l0 k x0 x1 (x5 ++ [(rd_T48 x0 x6).f1]) (wrap64 (x6 + 1))) else (none)) else (transeptref10_All.l0 k x0 x1 x5 (wrap64 (x6 + 1)))))) else (none)) else (some x5)
def transeptref10_All.f (k : Nat) (l0 : List (S48)) (a1 : ByteArray) : Option (List ByteArray) := transeptref10_All.l0 k l0 a1 (([] : List ByteArray)) 0
/-! ### transeptref10_Get: function 36 -/
def transeptref10_Get.l0 : Nat → List ByteArray → ByteArray → Int → Option (ByteArray × Bool)
  | 0, _, _, _ => none
  | k + 1, x6, x7, x8 => if x8 < (x6.length : Int) then (if x8 > 0 then (if x7.size + 2 ≤ 9223372036854775807 then (if 0 ≤ x8 then (if (x7 ++ (⟨#[44, 32]⟩ : ByteArray)).size + (rdOf ByteArray.empty x6 x8).size ≤ 9223372036854775807 then (transeptref10_Get.l0 k x6 ((x7 ++ (⟨#[44, 32]⟩ : ByteArray)) ++ (rdOf ByteArray.empty x6 x8)) (wrap64 (x8 + 1))) else (none)) else (none)) else (none)) else (if 0 ≤ x8 then (if x7.size + (rdOf ByteArray.empty x6 x8).size ≤ 9223372036854775807 then (transeptref10_Get.l0 k x6 (x7 ++ (rdOf ByteArray.empty x6 x8)) (wrap64 (x8 + 1))) else (none)) else (none))) else (some (x7, decide ((x6.length : Int) > 0)))
def transeptref10_Get.f (k : Nat) (l0 : List (S48)) (a1 : ByteArray) : Option (ByteArray × Bool) := (transeptref10_All.f k l0 a1).bind fun t199 => (transeptref10_Get.l0 k t199 (⟨#[]⟩ : ByteArray) 0)
/-! ### transeptref09_Parts: function 37 -/
mutual
def transeptref09_Parts.l0 : Nat → ByteArray → List ByteArray → Int → Bool → Int → Option (List ByteArray)
  | 0, _, _, _, _, _ => none
  | k + 1, x0, x3, x4, x5, x6 => if x6 < (x0.size : Int) then (if x5 = true then (if 0 ≤ x6 then (transeptref09_Parts.j1 k x0 x3 x4 x5 x6 ((bt x0 x6) == 92)) else (none)) else (transeptref09_Parts.j1 k x0 x3 x4 x5 x6 false)) else (if 0 ≤ x4 then (if x4 ≤ (x0.size : Int) then ((transeptref09_Strip.f k (x0.extract (x4 : Int).toNat x0.size) (⟨#[9, 32]⟩ : ByteArray)).bind fun t207 => (if x3.length < 8796093022208 then (some (x3 ++ [t207])) else (none))) else (none)) else (none))
def transeptref09_Parts.j1 : Nat → ByteArray → List ByteArray → Int → Bool → Int → Bool → Option (List ByteArray)
  | 0, _, _, _, _, _, _ => none
  | k + 1, x0, x3, x4, x5, x6, x14 => if x14 = true then (transeptref09_Parts.l0 k x0 x3 x4 x5 (wrap64 ((wrap64 (x6 + 1)) + 1))) else (if 0 ≤ x6 then (if x6 < (x0.size : Int) then (if (bt x0 x6) = 34 then (transeptref09_Parts.l0 k x0 x3 x4 (!x5) (wrap64 (x6 + 1))) else (if x5 = true then (transeptref09_Parts.l0 k x0 x3 x4 x5 (wrap64 (x6 + 1))) else (if (bt x0 x6) = 44 then (if 0 ≤ x4 then (if x4 ≤ x6 then (if x6 ≤ (x0.size : Int) then ((transeptref09_Strip.f k (x0.extract (x4 : Int).toNat (x6 : Int).toNat) (⟨#[9, 32]⟩ : ByteArray)).bind fun t211 => (if x3.length < 8796093022208 then (transeptref09_Parts.l0 k x0 (x3 ++ [t211]) (wrap64 (x6 + 1)) x5 (wrap64 (x6 + 1))) else (none))) else (none)) else (none)) else (none)) else (transeptref09_Parts.l0 k x0 x3 x4 x5 (wrap64 (x6 + 1)))))) else (none)) else (none))
end
def transeptref09_Parts.f (k : Nat) (a0 : ByteArray) : Option (List ByteArray) := transeptref09_Parts.l0 k a0 (([] : List ByteArray)) 0 false 0
/-! ### transeptref10_Split: function 24 -/
def transeptref10_Split.f (k : Nat) (l0 : List (S48)) (a1 : ByteArray) : Option (List ByteArray × Bool) := (transeptref10_Get.f k l0 a1).bind fun bt215 => (if bt215.2 = true then ((transeptref09_Parts.f k bt215.1).bind fun t217 => (some (t217, true))) else (some (([] : List ByteArray), false)))
end Go.Proofs.YtkljbmomafeibaaDoor.Fun
