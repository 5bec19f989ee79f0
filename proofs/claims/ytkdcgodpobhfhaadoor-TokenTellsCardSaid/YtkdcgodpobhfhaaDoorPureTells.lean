/-
  THE PLAIN LAW of TokenTells: what the printed law computes is true. Condition: texts of at most 140737488351232 bytes.
-/
import Derived.Test.YtkdcgodpobhfhaaDoorPureC
namespace Go.Proofs.YtkdcgodpobhfhaaDoor.Pure
open Go.RowKit Go.Proofs.YtkdcgodpobhfhaaDoorW.PrintWords
open Go.Proofs.YtkdcgodpobhfhaaDoor.Ext (txt Big)
open Go.Proofs.YtkdcgodpobhfhaaDoor.Fun

theorem TokenTells (s t : ByteArray) (hs0 : s.size ≤ 140737488351232) (ht0 : t.size ≤ 140737488351232) : ∃ k, transeptlaw09_TokenTells.f k s t = some true := by
  have hs : s.size ≤ Big := by show _ ≤ 9223372036854775807; omega
  have ht : t.size ≤ Big := by show _ ≤ 9223372036854775807; omega
  refine ⟨s.size + s.size + 200, ?_⟩
  unfold transeptlaw09_TokenTells.f
  rw [shown_f _ (by omega), name_ext s hs, name_f s hs _ (by omega), tvalue_f s hs, rvalue_f s hs _ (by omega), trim_f s hs, rtrim_f s hs _ (by omega), lower_ext s hs, rlower_f s hs, rlower_f t ht, fold_ext s t hs ht, method_f s hs _ (by omega), rmethod_f s hs _ (by omega), never_ext s hs, rnever_f s hs]
  simp only [Option.bind_some, txt_list, beq_self_eq_true, if_true, Plain.foldB]
end Go.Proofs.YtkdcgodpobhfhaaDoor.Pure
