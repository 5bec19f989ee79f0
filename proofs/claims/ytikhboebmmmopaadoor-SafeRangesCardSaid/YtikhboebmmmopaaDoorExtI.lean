/-
  CONTRACTS, proved by hand: internal/stringslite.Index at a separator of one byte. Conditions: those in each statement.
-/
import Derived.Test.YtikhboebmmmopaaDoorExtTok
namespace Go.Proofs.YtikhboebmmmopaaDoor.Ext
open Go.RowKit Go.Proofs.YtikhboebmmmopaaDoorW.PrintWords
/-! ### internal/stringslite.Index at one byte -/
def stringslite_Index.f (a0 : ByteArray) (a1 : ByteArray) : Option Int := if a1.size = 1 ∧ a0.size ≤ Big then some (Lib.indexByte a0.data.toList (a1.data[0]?.getD 0)) else none
theorem stringslite_Index.calls (a0 : ByteArray) (a1 : ByteArray) (r : Int) (w : World) (h : stringslite_Index.f a0 a1 = some r) :
    Calls Tryd.prog 57 #[.string a0, .string a1] w fun e w' => e = .returned (.int .i64 r) ∧ Below w.heap.size w w' := by
  unfold stringslite_Index.f at h
  split at h
  · rename_i hs
    obtain rfl := Option.some.inj h
    obtain ⟨⟨l⟩⟩ := a1
    have h1 : l.length = 1 := hs.1
    obtain ⟨c, rfl⟩ := List.length_eq_one_iff.1 h1
    refine (Tryd.stringslite_Index_one a0 c w).mono ?_
    rintro e w' ⟨rfl, rfl⟩
    exact ⟨rfl, Below.refl _ _⟩
  · cases h
end Go.Proofs.YtikhboebmmmopaaDoor.Ext
