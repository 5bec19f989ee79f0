/-
  CONTRACTS, proved by hand: slices.Backward at []string, for every loop body that keeps what lay. Conditions: those in each statement.
-/
import Derived.RangeFuncNested
import Derived.RangeFuncBound
import Derived.RangeFuncCalls
import Derived.RangeFuncLeaves
import Derived.Shelf.Abstract
import Derived.Shelf.RegionOpen
import Derived.WalkKit
import Derived.OwnWalkIn
import Derived.TacticsInMore
import Derived.LoopNIn
import Derived.LoopIn
import Derived.Test.YtkljbmomafeibaaDoorExtJ
namespace Go.Proofs.YtkljbmomafeibaaDoor.Ext
open Go.RowKit Go.Shelf Go.Proofs.YtkljbmomafeibaaDoorW.PrintWords

/-- what has come when k rounds are over -/
def upto {α : Type} (f : Nat → α) (k : Nat) : List α := (List.range k).map f
theorem upto_succ {α : Type} (f : Nat → α) (k : Nat) : upto f (k + 1) = upto f k ++ [f k] := by simp [upto, List.range_succ]
theorem upto_length {α : Type} (f : Nat → α) (k : Nat) : (upto f k).length = k := by simp [upto]

section
attribute [local go_sem] Oper.semAt_some
set_option maxRecDepth 100000 in
set_option maxHeartbeats 2000000 in
theorem backward1_in {α : Type} (F : Fence) (n : Nat) (h7 : F.fn 35) (hro : F.round = none) (hn : 1 ≤ n) (l Bs c : Nat) (A : Option Addr) (zs : List ByteArray) (encs : α → Array Value) (pr : Nat → α)
    (hpr : ∀ j (h : j < zs.length), encs (pr j) = #[.int .i64 (j : Int), .string zs[j]]) (w : World) (hBs : w.cell? ⟨Bs, 0, none⟩ = some (.slice A zs.length c)) (hB0 : Bs < w.heap.size) (hr : Kd.C Kd.string w A zs.length zs) (J Jx : List α → World → Prop)
    (hY : ∀ pre x W, J pre W → pre.length < zs.length → YieldAt F (n - 1) Tryd.prog l (encs x) W fun e W' =>
      (e = .returned (.bool true) ∧ J (pre ++ [x]) W' ∧ Below w.heap.size W W') ∨ (e = .returned (.bool false) ∧ Jx (pre ++ [x]) W'))
    (W : World) (hW : Below w.heap.size w W) (h0 : J [] W) :
    CallsIn F n Tryd.prog 35 #[.func (.yield l) #[] #[], .pointer (some ⟨Bs, 0, none⟩)] W fun e W' => (∃ v, e = .returned v) ∧
      ((∃ ys, ys = upto (fun j => pr (zs.length - 1 - j)) zs.length ∧ J ys W') ∨ (∃ pre, (∃ k, k ≤ zs.length ∧ pre = upto (fun j => pr (zs.length - 1 - j)) k) ∧ Jx pre W')) := by
  have hmx := Kd.C_max hr
  have hB1 := (hW.cell (p := ⟨Bs, 0, none⟩) hB0).trans hBs
  refine callsIn_of_wp Tryd.func35 rfl h7 ?_ hro
  simp only [Tryd.ntmps35, List.size_toArray, List.length_cons, List.length_nil, Nat.reduceAdd, Nat.reduceSub, Array.replicate_succ, Array.replicate_zero, List.push_toArray, List.append_toArray, List.nil_append, List.cons_append]
  have HR := Aside0.mk hr
  clear hr
  gi_wp2
  gi_loopw [3] (fun i wr => ∃ m : Nat, m ≤ zs.length ∧ i = .int .i64 ((m : Int) - 1) ∧ J (upto (fun j => pr (zs.length - 1 - j)) (zs.length - m)) wr ∧ Below w.heap.size w wr)
    (fun i _ => (intOf i + 1).toNat)
  case atStart => exact ⟨zs.length, Nat.le_refl _, by first | rfl | (go_num; done) | (simp; done), by rw [Nat.sub_self]; exact h0, hW⟩
  case round =>
    obtain ⟨m, hm, rfl, hJs, hnx⟩ := hrel
    have hBx := (hnx.cell (p := ⟨Bs, 0, none⟩) hB0).trans hBs
    clear hB1
    cases m with
    | zero =>
      rw [show ((0 : Nat) : Int) - 1 = -1 from rfl]
      gi_wp2
      go_end0
      exact ⟨⟨_, rfl⟩, .inl ⟨_, rfl, by simpa using hJs⟩⟩
    | succ p =>
      rw [show ((p + 1 : Nat) : Int) - 1 = (p : Int) from by omega]
      have hp : p < zs.length := by omega
      have h0' : (0 : Int) ≤ (p : Int) := by omega
      have h1' : (p : Int) < (zs.length : Int) := by omega
      obtain ⟨ad, e, hx⟩ := Kd.at_string (Kd.C_below HR.out hnx) (p : Int) h0' h1'
      cases e
      have hrd : rdOf ByteArray.empty zs (p : Int) = zs[p] := by
        unfold rdOf
        rw [Int.toNat_natCast, List.getD, List.getElem?_eq_getElem hp]
        rfl
      rw [hrd, Int.toNat_natCast] at hx
      obtain ⟨fn, tmps, assign, body, hy, hR⟩ := hY _ (pr p) wr hJs (by rw [upto_length]; omega)
      rw [hpr p hp] at hy
      obtain ⟨x, hxx⟩ : ∃ x, x = zs[p] := ⟨_, rfl⟩
      rw [← hxx] at hx hy
      clear hrd
      have eq : upto (fun j => pr (zs.length - 1 - j)) (zs.length - (p + 1)) ++ [pr p] = upto (fun j => pr (zs.length - 1 - j)) (zs.length - p) := by
        rw [show zs.length - p = (zs.length - (p + 1)) + 1 by omega, upto_succ, show zs.length - 1 - (zs.length - (p + 1)) = p by omega]
      rw [eq] at hR
      have HX := Aside0.mk hxx
      have HE := Aside0.mk eq
      clear hxx eq
      gi_wp2
      refine hR.mono ?_
      rintro e W3 (⟨rfl, hJ3, hk3⟩ | ⟨rfl, hJx3⟩)
      · gi_wp2
        go_roundw
        case rel => exact ⟨p, by omega, by first | rfl | (go_num; done) | (simp; done), hJ3, hnx.trans hk3⟩
        case measure => simp [intOf]
      · gi_wp2
        refine bodyPost_ret (results_none rfl _ _ _) rfl ?_
        exact ⟨⟨_, rfl⟩, .inr ⟨_, ⟨_, by omega, rfl⟩, hJx3⟩⟩

set_option maxHeartbeats 1000000 in
theorem backward_in (F : Fence) (n : Nat) (h5 : F.fn 23) (hro : F.round = none) (a : Option Addr) (len cap : Nat) (w : World) :
    CallsIn F n Tryd.prog 23 #[.slice a len cap] w fun e w' => e = .returned (.func (.func 35) #[] #[.pointer (some ⟨w.heap.size, 0, none⟩)]) ∧ w' = w.alloc (.cells #[.slice a len cap] 41) := by
  refine callsIn_of_wp Tryd.func23 rfl h5 ?_ hro
  simp only [Tryd.ntmps23, List.size_toArray, List.length_cons, List.length_nil, Nat.reduceAdd, Nat.reduceSub, Array.replicate_succ, Array.replicate_zero, List.push_toArray, List.append_toArray, List.nil_append, List.cons_append]
  gi_wp2
  go_ret
  exact ⟨rfl, rfl⟩

/-- slices.Backward hands back a value that gives the elements from the last to the first: all, or a part of them. -/
theorem backward_stops {α : Type} (F : Fence) (n : Nat) (h7 : F.fn 35) (hro : F.round = none) (hn : 1 ≤ n) (Bs c : Nat) (A : Option Addr) (zs : List ByteArray) (encs : α → Array Value) (pr : Nat → α)
    (hpr : ∀ j (h : j < zs.length), encs (pr j) = #[.int .i64 (j : Int), .string zs[j]]) (w : World) (hBs : w.cell? ⟨Bs, 0, none⟩ = some (.slice A zs.length c)) (hB0 : Bs < w.heap.size) (hr : Kd.C Kd.string w A zs.length zs) :
    SeqStopsK F n Tryd.prog 35 #[.pointer (some ⟨Bs, 0, none⟩)] encs (Below w.heap.size) (fun ys => ys = upto (fun j => pr (zs.length - 1 - j)) zs.length)
      (fun pre => ∃ k, k ≤ zs.length ∧ pre = upto (fun j => pr (zs.length - 1 - j)) k) zs.length w := fun l J Jx W hW _ _ hY h0 =>
  backward1_in F n h7 hro hn l Bs c A zs encs pr hpr w hBs hB0 hr J Jx hY W hW h0
end
end Go.Proofs.YtkljbmomafeibaaDoor.Ext
