/-
  THE PLAIN LAW of TokenAgain: what the printed law computes is true. Condition: a text of at most 140737488351232 bytes.
-/
import Derived.Test.YtkdcgodpobhfhaaDoorPureC
import Derived.Test.YtkdcgodpobhfhaaDoorFun5
namespace Go.Proofs.YtkdcgodpobhfhaaDoor.Pure
open Go.RowKit Go.Proofs.YtkdcgodpobhfhaaDoorW.PrintWords
open Go.Proofs.YtkdcgodpobhfhaaDoor.Ext (txt Big)
open Go.Proofs.YtkdcgodpobhfhaaDoor.Fun

theorem method_length (l : List UInt8) : (Plain.method l).length = l.length := by
  unfold Plain.method
  split
  · exact Plain.upper_length l
  · rfl
theorem again_j0 (s : ByteArray) (hs : s.size ≤ Big) (k : Nat) (hk : 8 < k) :
    transeptlaw09_TokenAgain.j0 k s true (txt (Plain.trimB s.data.toList)) (txt (Plain.lower s.data.toList)) (txt (Plain.method s.data.toList)) false = some true := by
  obtain ⟨k, rfl⟩ : ∃ m, k = m + 1 := ⟨k - 1, by omega⟩
  have h1 : (txt (Plain.trimB s.data.toList)).size ≤ s.size := by
    rw [Ext.txt_size, ← len_eq]
    exact Plain.trimP_length _ _
  have h2 : (txt (Plain.lower s.data.toList)).size = s.size := by rw [Ext.txt_size, Plain.lower_length, len_eq]
  have h3 : (txt (Plain.method s.data.toList)).size = s.size := by rw [Ext.txt_size, method_length, len_eq]
  have e1 : Plain.trimB (Plain.trimB s.data.toList) = Plain.trimB s.data.toList := Plain.trimP_trimP _ _
  have e2 : Plain.foldB s.data.toList (Plain.lower s.data.toList) = true := by
    unfold Plain.foldB
    rw [Plain.lower_lower]
    exact beq_self_eq_true _
  have e3 : Plain.foldB (Plain.method s.data.toList) s.data.toList = true := by
    unfold Plain.foldB
    rw [Plain.lower_method]
    exact beq_self_eq_true _
  simp only [transeptlaw09_TokenAgain.j0]
  rw [if_neg (by decide), if_pos trivial, trim_f _ (by omega), lower_ext _ (by omega), method_f _ (by omega) k (by omega), fold_ext _ _ hs (by omega), fold_ext _ _ (by omega) hs, never_ext _ hs, never_ext _ (by omega)]
  simp only [Option.bind_some, Ext.txt_data, txt_list, e1, e2, e3, Plain.lower_lower, Plain.method_method, Plain.never_lower, if_true, beq_self_eq_true]
  rw [if_pos (by omega), if_pos (by omega)]

theorem TokenAgain (s : ByteArray) (hs0 : s.size ≤ 140737488351232) : ∃ k, transeptlaw09_TokenAgain.f k s = some true := by
  have hs : s.size ≤ Big := by show _ ≤ 9223372036854775807; omega
  refine ⟨200, ?_⟩
  have h2 : (txt (Plain.lower s.data.toList)).size ≤ Big := by rw [Ext.txt_size, Plain.lower_length, len_eq]; exact hs
  unfold transeptlaw09_TokenAgain.f
  rw [shown_f _ (by omega), trim_f s hs, lower_ext s hs, method_f s hs _ (by omega), name_ext s hs]
  simp only [Option.bind_some]
  rw [tvalue_f s hs, name_ext _ h2]
  simp only [Option.bind_some, txt_list, Ext.txt_data, Plain.name_lower]
  by_cases h : Plain.nameB s.data.toList = true
  · rw [if_pos h, Plain.name_value h, if_pos rfl, list_eq, if_pos (Plain.name_trim h)]
    have : (Plain.nameB s.data.toList != Plain.nameB s.data.toList) = false := by simp
    rw [this]
    exact again_j0 s hs 200 (by omega)
  · rw [if_neg h]
    exact again_j0 s hs 200 (by omega)
end Go.Proofs.YtkdcgodpobhfhaaDoor.Pure
