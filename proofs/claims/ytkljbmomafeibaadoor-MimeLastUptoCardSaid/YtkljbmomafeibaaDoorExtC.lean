/-
  The library functions slices.IndexFunc and ContainsFunc at texts, and the Go functions token.Fold and token.Never, do what the plain functions say. Conditions: sizes that an int holds; what is asked of a function value stands in Tells.
-/
import Derived.Test.YtkljbmomafeibaaDoorExtB
import Derived.Test.YtkljbmomafeibaaDoorWMore
namespace Go.Proofs.YtkljbmomafeibaaDoor.Ext
open Go.RowKit Go.Proofs.YtkljbmomafeibaaDoorW.PrintWords


/-- a function value that tells p of each string; it may lay blocks -/
def Tells (g : Nat) (lb : Array Value) (p : ByteArray → Prop) (r : ByteArray → Bool) (w : World) : Prop :=
  ∀ (W : World) (x : ByteArray), p x → Below w.heap.size w W → Calls Tryd.prog g (#[.string x] ++ lb) W fun e w' => e = .returned (.bool (r x)) ∧ Below W.heap.size W w'

theorem take_any {p : ByteArray → Bool} (zs : List ByteArray) (i : Nat) (h : i < zs.length) : (zs.take (i + 1)).any p = ((zs.take i).any p || p zs[i]) := by
  rw [List.take_succ_eq_append_getElem h, List.any_append]
  simp only [List.any_cons, List.any_nil, Bool.or_false]

theorem C_block {W : World} {B t : Nat} {xs : List ByteArray} (h : W.heap[B]? = some (.cells (xs.map Value.string).toArray t (0, 0))) (hm : xs.length ≤ 9223372036854775807) : Kd.C Kd.string W (some ⟨B, 0, none⟩) xs.length xs :=
  Kd.C_of_reads (d := ByteArray.empty) ⟨rfl, hm, fun _ => ⟨_, rfl, fun j hj => by
    rw [add_plain]
    simp [World.cell?, h, List.getD, hj]⟩⟩

theorem ret_bool {a b : Bool} (h : a = b) : Ending.returned (.bool a) = .returned (.bool b) := by rw [h]

set_option maxHeartbeats 1000000 in
theorem fold_any (s t : ByteArray) (w : World) (hs : s.size ≤ 9223372036854775807) (ht : t.size ≤ 9223372036854775807) :
    Calls Tryd.prog 61 #[.string s, .string t] w fun e w' => e = .returned (.bool (Plain.foldB s.data.toList t.data.toList)) ∧ Below w.heap.size w w' := by
  have HF := Aside0.mk (show Plain.foldB s.data.toList t.data.toList = (Plain.lower s.data.toList == Plain.lower t.data.toList) from rfl)
  go_enter Tryd.func61, Tryd.ntmps61
  go_wp2_with fail
  refine (lower_any s w hs).mono ?_
  rintro e W1 ⟨rfl, hb1⟩
  go_wp2_with fail
  refine (lower_any t W1 ht).mono ?_
  rintro e W2 ⟨rfl, hb2⟩
  have HB := below_then hb1 hb1.size hb2
  clear hb1 hb2
  have h1 := HF.out
  obtain ⟨a, ha⟩ : ∃ a, a = Plain.lower s.data.toList := ⟨_, rfl⟩
  obtain ⟨b, hb⟩ : ∃ b, b = Plain.lower t.data.toList := ⟨_, rfl⟩
  rw [← ha, ← hb] at h1 ⊢
  have H1 := Aside0.mk h1
  clear h1 ha hb HF
  go_wp2
  go_ret
  refine ⟨?_, HB⟩
  rw [H1.out]
  exact ret_bool (by simp)
end Go.Proofs.YtkljbmomafeibaaDoor.Ext
