/-
  The library functions slices.IndexFunc and ContainsFunc at texts, and the Go functions token.Fold and token.Never, do what the plain functions say. Conditions: sizes that an int holds; what is asked of a function value stands in Tells.
-/
import Derived.Test.YtikhboebmmmopaaDoorExtB
import Derived.Test.YtikhboebmmmopaaDoorWMore
namespace Go.Proofs.YtikhboebmmmopaaDoor.Ext
open Go.RowKit Go.Proofs.YtikhboebmmmopaaDoorW.PrintWords


/-- a function value that tells p of each string; it may lay blocks -/
def Tells (g : Nat) (lb : Array Value) (p : ByteArray → Prop) (r : ByteArray → Bool) (w : World) : Prop :=
  ∀ (W : World) (x : ByteArray), p x → Below w.heap.size w W → Calls Tryd.prog g (#[.string x] ++ lb) W fun e w' => e = .returned (.bool (r x)) ∧ Below W.heap.size W w'

theorem take_any {p : ByteArray → Bool} (zs : List ByteArray) (i : Nat) (h : i < zs.length) : (zs.take (i + 1)).any p = ((zs.take i).any p || p zs[i]) := by
  rw [List.take_succ_eq_append_getElem h, List.any_append]
  simp only [List.any_cons, List.any_nil, Bool.or_false]

theorem C_block {W : World} {B t : Nat} {xs : List ByteArray} (h : W.heap[B]? = some (.cells (xs.map Value.string).toArray t (0, 0))) (hm : xs.length ≤ 9223372036854775807) : Kd.C Kd.string W (some ⟨B, 0, none⟩) xs.length xs :=
  Kd.C_of_reads (d := ByteArray.empty) ⟨rfl, hm, fun _ => ⟨_, rfl, fun j hj => by
    rw [add_plain]
    simp [World.cell?, h, List.getD, hj]⟩⟩

theorem ret_bool {a b : Bool} (h : a = b) : Ending.returned (.bool a) = .returned (.bool b) := by rw [h]

end Go.Proofs.YtikhboebmmmopaaDoor.Ext
