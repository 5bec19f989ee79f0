-- Written by xprint.py, a program of this session's, by means of the kit's print. Not trusted: Lean checks it.
import Derived.Test.YtkljbmomafeibaaDoorFun0
namespace Go.Proofs.YtkljbmomafeibaaDoor.Fun
open Go.RowKit Go.Proofs.YtkljbmomafeibaaDoorW.PrintWords Go.Proofs.YtkljbmomafeibaaDoorW.PrintLast Go.Proofs.YtkljbmomafeibaaDoorW.PrintMore
attribute [local go_sem] max2_int min2_int max_two min_two max_three min_three max_four min_four   -- for this text's walks alone
set_option linter.unusedVariables false
set_option linter.unusedSimpArgs false

/-! ### transeptref11_until: function 18 -/
def transeptref11_until.l0 : Nat → ByteArray → Int → Int → Option (ByteArray × ByteArray × Bool)
  | 0, _, _, _ => none
  | k + 1, x0, x1, x7 => if x7 < (x0.size : Int) then (if 0 ≤ x7 then (if (bt x0 x7) = x1 then (if x7 ≤ (x0.size : Int) then (if 0 ≤ (wrap64 (x7 + 1)) then (if (wrap64 (x7 + 1)) ≤ (x0.size : Int) then (some (x0.extract 0 (x7 : Int).toNat, x0.extract ((wrap64 (x7 + 1)) : Int).toNat x0.size, true)) else (none)) else (none)) else (none)) else (transeptref11_until.l0 k x0 x1 (wrap64 (x7 + 1)))) else (none)) else (some (x0, (⟨#[]⟩ : ByteArray), false))
def transeptref11_until.f (k : Nat) (a0 : ByteArray) (a1 : Int) : Option (ByteArray × ByteArray × Bool) := transeptref11_until.l0 k a0 a1 0
/-! ### transeptref09_In: function 31 -/
def transeptref09_In.l0 : Nat → ByteArray → Int → Int → Option (Bool)
  | 0, _, _, _ => none
  | k + 1, x0, x1, x5 => if x5 < (x0.size : Int) then (if 0 ≤ x5 then (if (bt x0 x5) = x1 then (some true) else (transeptref09_In.l0 k x0 x1 (wrap64 (x5 + 1)))) else (none)) else (some false)
def transeptref09_In.f (k : Nat) (a0 : ByteArray) (a1 : Int) : Option (Bool) := transeptref09_In.l0 k a0 a1 0
/-! ### transeptref09_Strip: function 29 -/
mutual
def transeptref09_Strip.j1 : Nat → ByteArray → ByteArray → Int → Option (ByteArray)
  | 0, _, _, _ => none
  | k + 1, x0, x1, x5 => transeptref09_Strip.l1 k x0 x1 x5 (x0.size : Int)
def transeptref09_Strip.l1 : Nat → ByteArray → ByteArray → Int → Int → Option (ByteArray)
  | 0, _, _, _, _ => none
  | k + 1, x0, x1, x5, x6 => if x6 > x5 then (if 0 ≤ (wrap64 (x6 - 1)) then (if (wrap64 (x6 - 1)) < (x0.size : Int) then ((transeptref09_In.f k x1 (bt x0 (wrap64 (x6 - 1)))).bind fun t173 => (if t173 = true then (transeptref09_Strip.l1 k x0 x1 x5 (wrap64 (x6 - 1))) else (if 0 ≤ x5 then (if x5 ≤ x6 then (if x6 ≤ (x0.size : Int) then (some (x0.extract (x5 : Int).toNat (x6 : Int).toNat)) else (none)) else (none)) else (none)))) else (none)) else (none)) else (if 0 ≤ x5 then (if x5 ≤ x6 then (if x6 ≤ (x0.size : Int) then (some (x0.extract (x5 : Int).toNat (x6 : Int).toNat)) else (none)) else (none)) else (none))
def transeptref09_Strip.l0 : Nat → ByteArray → ByteArray → Int → Option (ByteArray)
  | 0, _, _, _ => none
  | k + 1, x0, x1, x5 => if x5 < (x0.size : Int) then (if 0 ≤ x5 then ((transeptref09_In.f k x1 (bt x0 x5)).bind fun t172 => (if t172 = true then (transeptref09_Strip.l0 k x0 x1 (wrap64 (x5 + 1))) else (transeptref09_Strip.j1 k x0 x1 x5))) else (none)) else (transeptref09_Strip.j1 k x0 x1 x5)
end
def transeptref09_Strip.f (k : Nat) (a0 : ByteArray) (a1 : ByteArray) : Option (ByteArray) := transeptref09_Strip.l0 k a0 a1 0
/-! ### transeptref09_Trim: function 19 -/
def transeptref09_Trim.f (k : Nat) (a0 : ByteArray) : Option (ByteArray) := (transeptref09_Strip.f k a0 (⟨#[9, 10, 13, 32]⟩ : ByteArray)).bind fun t174 => (some t174)
/-! ### transeptref09_Alnum: function 30 -/
def transeptref09_Alnum.f (a0 : Int) : Option (Bool) := if a0 ≥ 48 then (if a0 ≤ 57 then (some true) else (if a0 ≥ 65 then (if a0 ≤ 90 then (some true) else (if a0 ≥ 97 then (some (decide (a0 ≤ 122))) else (some false))) else (if a0 ≥ 97 then (some (decide (a0 ≤ 122))) else (some false)))) else (if a0 ≥ 65 then (if a0 ≤ 90 then (some true) else (if a0 ≥ 97 then (some (decide (a0 ≤ 122))) else (some false))) else (if a0 ≥ 97 then (some (decide (a0 ≤ 122))) else (some false)))
/-! ### transeptref09_Name: function 20 -/
def transeptref09_Name.l0 : Nat → ByteArray → Int → Option (Bool)
  | 0, _, _ => none
  | k + 1, x0, x3 => if x3 < (x0.size : Int) then (if 0 ≤ x3 then ((transeptref09_Alnum.f (bt x0 x3)).bind fun t175 => (if t175 = true then (transeptref09_Name.l0 k x0 (wrap64 (x3 + 1))) else ((transeptref09_In.f k (⟨#[33, 35, 36, 37, 38, 39, 42, 43, 45, 46, 94, 95, 96, 124, 126]⟩ : ByteArray) (bt x0 x3)).bind fun t176 => (if t176 = true then (transeptref09_Name.l0 k x0 (wrap64 (x3 + 1))) else (some false))))) else (none)) else (some (x0.toList != ([] : List UInt8)))
def transeptref09_Name.f (k : Nat) (a0 : ByteArray) : Option (Bool) := transeptref09_Name.l0 k a0 0
/-! ### transeptref09_Lower: function 21 -/
def transeptref09_Lower.f (a0 : ByteArray) : Option (ByteArray) := (Ext.ref09_turned.f a0 65 32).bind fun t177 => (some t177)
end Go.Proofs.YtkljbmomafeibaaDoor.Fun
