/-
  CONTRACTS, proved by hand: slices.IndexFunc and slices.ContainsFunc over bytes, for every function value that tells. Conditions: those in each statement.
-/
import Derived.Test.YtikhboebmmmopaaDoorProg
import Derived.Test.YtikhboebmmmopaaDoorWWords
import Derived.WalkKit
import Derived.LoopTactic
import Derived.Deep.LoopGhost
namespace Go.Proofs.YtikhboebmmmopaaDoor.Ext
open Go.RowKit Go.Proofs.YtikhboebmmmopaaDoorW.PrintWords
/-- a function value that tells p of each byte; it may lay blocks -/
def TellsB (g : Nat) (lb : Array Value) (p : Int → Prop) (r : Int → Bool) (w : World) : Prop :=
  ∀ (W : World) (x : Int), p x → Below w.heap.size w W → Calls Tryd.prog g (#[.int .u8 x] ++ lb) W fun e w' => e = .returned (.bool (r x)) ∧ Below W.heap.size W w'

theorem take_anyB {p : Int → Bool} (zs : List Int) (i : Nat) (h : i < zs.length) : (zs.take (i + 1)).any p = ((zs.take i).any p || p zs[i]) := by
  rw [List.take_succ_eq_append_getElem h, List.any_append]
  simp only [List.any_cons, List.any_nil, Bool.or_false]

set_option maxHeartbeats 1000000 in
theorem indexByteFunc_any (g : Nat) (lb : Array Value) (ok : Int → Prop) (p : Int → Bool) (eg : ∀ args w, (callFunc g args).run Tryd.prog w = .ok (.enter g args) w) (A : Option Addr) (c : Nat) (zs : List Int) (w : World)
    (hp : TellsB g lb ok p w) (hz : ∀ x ∈ zs, ok x) (hr : Kd.C (Kd.int .u8) w A zs.length zs) :
    Calls Tryd.prog 47 #[.slice A zs.length c, .func (.func g) #[] lb] w fun e w' => (∃ n : Int, e = .returned (.int .i64 n) ∧ decide (0 ≤ n) = zs.any p) ∧ Below w.heap.size w w' := by
  have HR := Aside0.mk hr
  have HM := Aside0.mk (Kd.C_max hr)
  have HP := Aside0.mk hp
  have HZ := Aside0.mk hz
  clear hr hp hz
  go_enter Tryd.func47, Tryd.ntmps47
  go_wp2
  go_loopg [8] zs.length (fun gk v wx => ∃ i : Nat, i + gk = zs.length ∧ v = .int .i64 i ∧ Aside0 ((zs.take i).any p = false) ∧ Below w.heap.size w wx)
  case atStart => exact ⟨0, by omega, rfl, ⟨rfl⟩, Below.refl _ _⟩
  case round =>
    obtain ⟨i, hi, rfl, HN, HB⟩ := hrel
    have hmx := HM.out
    cases gk with
    | zero =>
      obtain rfl : i = zs.length := by omega
      clear hi
      have hfin : zs.any p = false := by
        have := HN.out
        rwa [List.take_of_length_le (Nat.le_refl _)] at this
      have HF := Aside0.mk hfin
      clear hfin
      go_wp2
      go_ret
      exact ⟨⟨-1, rfl, by rw [HF.out]; rfl⟩, HB⟩
    | succ gk =>
      have hlt : i < zs.length := by omega
      have h0 : (0 : Int) ≤ (i : Int) := by omega
      have h1 : (i : Int) < (zs.length : Int) := by omega
      obtain ⟨ad, e, hx⟩ := Kd.at_int (Kd.C_below HR.out HB) (i : Int) h0 h1
      cases e
      have hrd : rd zs (i : Int) = zs[i] := by
        unfold rd
        rw [Int.toNat_natCast, List.getD, List.getElem?_eq_getElem hlt]
        rfl
      rw [hrd, Int.toNat_natCast] at hx
      obtain ⟨x, hxx⟩ : ∃ x, x = zs[i] := ⟨_, rfl⟩
      rw [← hxx] at hx
      have hox : ok x := HZ.out x (by rw [hxx]; exact List.getElem_mem hlt)
      have HX := Aside0.mk hxx
      have HI := Aside0.mk hi
      have HO := Aside0.mk hox
      clear hxx hrd hi hox
      go_wp2_with fail
      refine (HP.out wr x HO.out HB).mono ?_
      rintro e W1 ⟨rfl, hb1⟩
      have HB1 := below_then HB HB.size hb1
      clear hb1
      cases hpx : p x with
      | true =>
        have HPX := Aside0.mk hpx
        clear hpx
        go_wp2
        go_ret
        refine ⟨⟨(i : Int), rfl, ?_⟩, HB1⟩
        rw [decide_eq_true (by omega)]
        exact (List.any_eq_true.2 ⟨x, by rw [HX.out]; exact List.getElem_mem hlt, HPX.out⟩).symm
      | false =>
        have HPX := Aside0.mk hpx
        clear hpx
        go_wp2
        go_roundg gk
        case measure => omega
        case rel =>
          refine ⟨i + 1, by have := HI.out; omega, by go_num, ⟨?_⟩, HB1⟩
          rw [take_anyB zs i hlt, HN.out, ← HX.out, HPX.out]
          rfl

set_option maxHeartbeats 1000000 in
theorem containsByteFunc_any (g : Nat) (lb : Array Value) (ok : Int → Prop) (p : Int → Bool) (eg : ∀ args w, (callFunc g args).run Tryd.prog w = .ok (.enter g args) w) (A : Option Addr) (c : Nat) (zs : List Int) (w : World)
    (hp : TellsB g lb ok p w) (hz : ∀ x ∈ zs, ok x) (hr : Kd.C (Kd.int .u8) w A zs.length zs) :
    Calls Tryd.prog 38 #[.slice A zs.length c, .func (.func g) #[] lb] w fun e w' => e = .returned (.bool (zs.any p)) ∧ Below w.heap.size w w' := by
  have HC := Aside0.mk (indexByteFunc_any g lb ok p eg A c zs w hp hz hr)
  clear hr hp hz
  go_enter Tryd.func38, Tryd.ntmps38
  go_wp2_with fail
  refine HC.out.mono ?_
  rintro e W1 ⟨⟨n, rfl, hn⟩, hb1⟩
  have HN := Aside0.mk hn
  clear hn HC
  by_cases h0 : 0 ≤ n
  · go_wp2
    go_ret
    refine ⟨?_, hb1⟩
    rw [← HN.out, decide_eq_true h0]
    rfl
  · go_wp2
    go_ret
    refine ⟨?_, hb1⟩
    rw [← HN.out, decide_eq_false (by omega)]
    rfl

end Go.Proofs.YtikhboebmmmopaaDoor.Ext
