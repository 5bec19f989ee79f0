/-
  CONTRACTS, proved by hand: strings.Join, strings.Cut at a separator of one byte. Conditions: those in each statement.
-/
import Derived.Test.YtkljbmomafeibaaDoorExtTok
import Derived.Test.YtkljbmomafeibaaDoorWMore
namespace Go.Proofs.YtkljbmomafeibaaDoor.Ext
open Go.RowKit Go.Proofs.YtkljbmomafeibaaDoorW.PrintWords Go.Proofs.YtkljbmomafeibaaDoorW.PrintMore
/-! ### strings.Join -/
def joinT (l : List ByteArray) (sep : ByteArray) : List UInt8 := Lib.join (l.map (·.data.toList)) sep.data.toList
def strings_Join.f (l0 : List ByteArray) (a1 : ByteArray) : Option ByteArray := if l0.length ≤ 140737488355328 ∧ (joinT l0 a1).length ≤ 140737488355328 then some (txt (joinT l0 a1)) else none
theorem strings_Join.calls (A0 : Option Addr) (c0 : Nat) (l0 : List ByteArray) (a1 : ByteArray) (r : ByteArray) (w : World) (hr0 : Kd.C Kd.string w A0 l0.length l0) (hc0 : l0.length ≤ c0) (h : strings_Join.f l0 a1 = some r) :
    Calls Tryd.prog 50 #[.slice A0 l0.length c0, .string a1] w fun e w' => e = .returned (.string r) ∧ Below w.heap.size w w' := by
  unfold strings_Join.f at h
  split at h
  · rename_i hs
    obtain rfl := Option.some.inj h
    cases l0 with
    | nil =>
      refine (Tryd.strings_Join_none A0 c0 a1 w).mono ?_
      rintro e w' ⟨rfl, hw⟩
      rw [hw]
      exact ⟨rfl, Below.refl _ _⟩
    | cons x l =>
      have h2 := (Kd.reads_of_C (enc := Value.string) (d := ByteArray.empty) (h1 := fun _ => rfl) hr0).2.2 (by simp)
      obtain ⟨ad, rfl, hc⟩ := h2
      obtain ⟨bk, o, sp⟩ := ad
      have h0 := hc 0 (by simp)
      obtain rfl : sp = none := by
        cases sp with
        | none => rfl
        | some y =>
          unfold World.cell? at h0
          simp [Addr.add] at h0
          split at h0 <;> simp at h0
      have hlt : bk < w.heap.size := World.block_lt_of_cell? w _ h0
      refine Tryd.strings_Join bk o c0 (x :: l) a1 w (fun j y hj => ?_) hlt hs.1 hc0 hs.2
      have hjl : j < (x :: l).length := by
        rcases Nat.lt_or_ge j (x :: l).length with h | h
        · exact h
        · rw [List.getElem?_eq_none h] at hj; cases hj
      have := hc j hjl
      rw [List.getD_eq_getElem?_getD, hj] at this
      rw [← show (⟨bk, o, none⟩ : Addr).add j = ⟨bk, o + j, none⟩ from by simp [Addr.add]]
      exact this
  · cases h

/-! ### internal/stringslite.Index at one byte -/
def stringslite_Index.f (a0 : ByteArray) (a1 : ByteArray) : Option Int := if a1.size = 1 ∧ a0.size ≤ Big then some (Lib.indexByte a0.data.toList (a1.data[0]?.getD 0)) else none
theorem stringslite_Index.calls (a0 : ByteArray) (a1 : ByteArray) (r : Int) (w : World) (h : stringslite_Index.f a0 a1 = some r) :
    Calls Tryd.prog 41 #[.string a0, .string a1] w fun e w' => e = .returned (.int .i64 r) ∧ Below w.heap.size w w' := by
  unfold stringslite_Index.f at h
  split at h
  · rename_i hs
    obtain rfl := Option.some.inj h
    obtain ⟨⟨l⟩⟩ := a1
    have h1 : l.length = 1 := hs.1
    obtain ⟨c, rfl⟩ := List.length_eq_one_iff.1 h1
    refine (Tryd.stringslite_Index_one a0 c w).mono ?_
    rintro e w' ⟨rfl, rfl⟩
    exact ⟨rfl, Below.refl _ _⟩
  · cases h
end Go.Proofs.YtkljbmomafeibaaDoor.Ext
