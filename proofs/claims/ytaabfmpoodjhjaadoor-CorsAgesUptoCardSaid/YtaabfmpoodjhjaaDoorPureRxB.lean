/-
  PLAIN LAWS: what the printed functions of the references of layers 9 and 10 and of field (Lower, Parts, All, Get, Split, Only; values, Get, Split, Only) come to, in the words of the Plain text. Conditions: rounds enough; sizes as told.
-/
import Derived.Test.YtaabfmpoodjhjaaDoorPureBxB
namespace Go.Proofs.YtaabfmpoodjhjaaDoor.Fun
open Go.RowKit Go.Proofs.YtaabfmpoodjhjaaDoorW.PrintWords
open Go.Proofs.YtaabfmpoodjhjaaDoor.Ext (txt Big)

theorem flower (s : ByteArray) (hs : s.size ≤ Big) : Ext.token_Lower.f s = some (txt (Plain.lower s.data.toList)) := by
  unfold Ext.token_Lower.f
  rw [if_pos hs]
theorem ffold (s t : ByteArray) (hs : s.size ≤ Big) (ht : t.size ≤ Big) : Ext.token_Fold.f s t = some (Plain.foldB s.data.toList t.data.toList) := by
  unfold Ext.token_Fold.f
  rw [if_pos ⟨hs, ht⟩]
theorem ftl (l : List UInt8) : (txt l).toList = l := by rw [list_eq, Ext.txt_data]
/-! ### the reference's Parts -/
end Go.Proofs.YtaabfmpoodjhjaaDoor.Fun
