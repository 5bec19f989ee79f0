/-
  PLAIN LAWS: what the printed functions of the reference of layer 9 (In, Alnum, Name, Strip, Trim) come to, in the words of the Plain text. Conditions: rounds enough; sizes that an int holds.
-/
import Derived.Test.YtaabfmpoodjhjaaDoorFunxB
namespace Go.Proofs.YtaabfmpoodjhjaaDoor.Fun
open Go.RowKit Go.Proofs.YtaabfmpoodjhjaaDoorW.PrintWords
open Go.Proofs.YtaabfmpoodjhjaaDoor.Ext (txt Big)

theorem wrap_in {i : Int} (h0 : -9223372036854775808 ≤ i) (h1 : i ≤ 9223372036854775807) : wrap64 i = i := by
  unfold wrap64
  omega
theorem bt_nat (s : ByteArray) (i : Nat) (h : i < s.data.toList.length) : bt s (i : Int) = (s.data.toList[i].toNat : Int) := by
  have h' : i < s.size := by rw [Lib.size_eq]; exact h
  have := bt_at s (i : Int) (by rw [Int.toNat_natCast]; exact h')
  rw [← this]
  rfl
theorem len_eq (s : ByteArray) : s.data.toList.length = s.size := (Lib.size_eq s).symm
theorem list_eq (s : ByteArray) : s.toList = s.data.toList := Lib.toList_data s
theorem drop_cons {α : Type} {l : List α} {i : Nat} (h : i < l.length) : l.drop i = l[i] :: l.drop (i + 1) := List.drop_eq_getElem_cons h
theorem drop_end {α : Type} {l : List α} {i : Nat} (h : l.length ≤ i) : l.drop i = [] := List.drop_eq_nil_of_le h

/-! ### In -/
/-! ### Alnum, Name -/
/-! ### Strip -/
theorem extract_list (s : ByteArray) (a b : Nat) : s.extract a b = txt ((s.data.toList.drop a).take (b - a)) := by
  rw [Lib.extract_eq]
  rfl
end Go.Proofs.YtaabfmpoodjhjaaDoor.Fun
