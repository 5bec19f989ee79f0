-- Written by xprint.py, a program of this session's, by means of the kit's print. Not trusted: Lean checks it.
import Derived.Test.YtaabfmpoodjhjaaDoorFun0
import Derived.Test.YtaabfmpoodjhjaaDoorFun1xB
import Derived.Test.YtaabfmpoodjhjaaDoorFun2xB
namespace Go.Proofs.YtaabfmpoodjhjaaDoor.Fun
open Go.RowKit Go.Proofs.YtaabfmpoodjhjaaDoorW.PrintWords Go.Proofs.YtaabfmpoodjhjaaDoorW.PrintLast Go.Proofs.YtaabfmpoodjhjaaDoorW.PrintMore
attribute [local go_sem] max2_int min2_int max_two min_two max_three min_three max_four min_four   -- for this text's walks alone
set_option linter.unusedVariables false
set_option linter.unusedSimpArgs false

/-! ### transeptlaw17_allow: function 24 -/
def transeptlaw17_allow.f (a0 : ByteArray) (a1 : ByteArray) : Option (ByteArray × ByteArray) := if 15 + a0.size ≤ 9223372036854775807 then (some ((⟨#[65, 99, 99, 101, 115, 115, 45, 67, 111, 110, 116, 114, 111, 108, 45]⟩ : ByteArray) ++ a0, a1)) else (none)
set_option maxHeartbeats 8000000 in
set_option maxRecDepth 100000 in
theorem transeptlaw17_allow.calls (a0 : ByteArray) (a1 : ByteArray) (r1 : ByteArray) (r2 : ByteArray) (w : World) (h : transeptlaw17_allow.f a0 a1 = some (r1, r2)) :
    Calls Tryd.prog 24 #[.string a0, .string a1] w fun e w' => e = .returned (.agg #[.string r1, .string r2]) ∧ Below w.heap.size w w' := by
  have hu40 := Tryd.underlying40
  have HB := Aside0.mk (Below.refl w.heap.size w)
  have H : (if 15 + a0.size ≤ 9223372036854775807 then (some ((⟨#[65, 99, 99, 101, 115, 115, 45, 67, 111, 110, 116, 114, 111, 108, 45]⟩ : ByteArray) ++ a0, a1)) else (none)) = some (r1, r2) := h
  clear h
  by_cases c3 : 15 + a0.size ≤ 9223372036854775807
  · rw [if_pos c3] at H
    have c3b0 := eq_true c3
    have c3b1 : decide (15 + a0.size ≤ 9223372036854775807) = true := decide_eq_true c3
    try have c3b2 : (9223372036854775807 < 15 + a0.size) = False := eq_false (Nat.not_lt.2 c3)
    simp only [Option.some.injEq, Prod.mk.injEq] at H
    obtain ⟨rfl, rfl⟩ := H
    go_enter Tryd.func24, Tryd.ntmps24
    go_wp2_with (first | ((with_reducible refine gate_dst (N := 4) rfl ?_); refine box_event ?hg (N := 4) ?hd (cs := #[.string (⟨#[]⟩ : ByteArray), .string (⟨#[]⟩ : ByteArray)]) (t := 40) ?hr ?_; (case hd => rfl); (case hg => rfl); (case hr => first | (go_simp; done) | (go_simp; rfl)); intro gb171 hg w4 hbox hb; have n0_ := Aside0.mk (below_step (by repeat (first | (with_reducible first | exact HB.out | apply below_alloc | apply pw_below_drewN | apply below_drew1) | exact HB.out)) hb); have n1_ := Aside0.mk (hbox); have n2_ := Aside0.mk ((by rw [hg]; exact (below_size (by repeat (first | (with_reducible first | exact HB.out | apply below_alloc | apply pw_below_drewN | apply below_drew1) | exact HB.out))) : w.heap.size ≤ gb171)); have n3_ := Aside0.mk ((by rw [hg]; exact (below_size (by repeat (first | (with_reducible first | exact HB.out | apply below_alloc | apply pw_below_drewN | apply below_drew1) | exact HB.out))) : w.heap.size ≤ gb171)); clear HB; have HB := n0_; have BK171 := n1_; have GW171 := n2_; have GE171 := n3_; clear n0_ n1_ n2_ n3_; clear hb hbox hg; have hcz5_0 : w4.cell? ⟨gb171, 0, none⟩ = some (.string (⟨#[]⟩ : ByteArray)) := (blk_cell BK171.out 0).trans rfl; have hcz5_1 : w4.cell? ⟨gb171, 1, none⟩ = some (.string (⟨#[]⟩ : ByteArray)) := (blk_cell BK171.out 1).trans rfl; have hfz5_0 := blk_frozen BK171.out 0; have hfz5_1 := blk_frozen BK171.out 1))
    all_goals (try (exfalso; omega))
    refine bodyPost_ret (results_cell_row rfl _ _ gb171 40 #[.string ((⟨#[65, 99, 99, 101, 115, 115, 45, 67, 111, 110, 116, 114, 111, 108, 45]⟩ : ByteArray) ++ a0), .string a1] (0, 0) _ rfl (by (with_reducible repeat (first | refine blk_drewN ?_ _ | refine blk_drew ?_ | refine blk_alloc ?_ _)); refine blk_put (cs := #[.string ((⟨#[65, 99, 99, 101, 115, 115, 45, 67, 111, 110, 116, 114, 111, 108, 45]⟩ : ByteArray) ++ a0), .string (⟨#[]⟩ : ByteArray)]) ?_ 1 _ rfl; (with_reducible repeat (first | refine blk_drewN ?_ _ | refine blk_drew ?_ | refine blk_alloc ?_ _)); refine blk_put (cs := #[.string (⟨#[]⟩ : ByteArray), .string (⟨#[]⟩ : ByteArray)]) ?_ 0 _ rfl; (with_reducible repeat (first | refine blk_drewN ?_ _ | refine blk_drew ?_ | refine blk_alloc ?_ _)); exact BK171.out) Tryd.underlying40 rfl (by kernel_rfl)) rfl ?_
    exact ⟨by first | rfl | (simp [errW_none, errW_some] <;> rfl) | (simp [*, errW_none, errW_some] <;> rfl) | (simp [Ext.ne_nil_empty]; done), by repeat (first | (with_reducible first | exact HB.out | apply below_alloc | apply pw_below_drewN | apply below_drew1 | refine below_set ?_ GE171.out) | exact HB.out)⟩
  · rw [if_neg c3] at H
    exact absurd H (by simp)

/-! ### transeptlaw17.shown, by hand: it always answers true -/
def transeptlaw17_shown.f (_k : Nat) : Option Bool := some true
theorem transeptlaw17_shown.facts : ∃ (x1 y1 x2 y2 x3 y3 x4 y4 x5 y5 x6 y6 : ByteArray) (any one : List S40), any = [⟨x1, y1⟩, ⟨x2, y2⟩, ⟨x3, y3⟩, ⟨x4, y4⟩] ∧ one = [⟨x5, y5⟩, ⟨x6, y6⟩] ∧ transeptlaw17_allow.f (⟨#[65, 108, 108, 111, 119, 45, 79, 114, 105, 103, 105, 110]⟩ : ByteArray) (⟨#[42]⟩ : ByteArray) = some (x1, y1) ∧ transeptlaw17_allow.f (⟨#[65, 108, 108, 111, 119, 45, 77, 101, 116, 104, 111, 100, 115]⟩ : ByteArray) (⟨#[80, 85, 84]⟩ : ByteArray) = some (x2, y2) ∧ transeptlaw17_allow.f (⟨#[77, 97, 120, 45, 65, 103, 101]⟩ : ByteArray) (⟨#[54, 48]⟩ : ByteArray) = some (x3, y3) ∧ transeptlaw17_allow.f (⟨#[69, 120, 112, 111, 115, 101, 45, 72, 101, 97, 100, 101, 114, 115]⟩ : ByteArray) (⟨#[120, 45, 97]⟩ : ByteArray) = some (x4, y4) ∧ transeptlaw17_allow.f (⟨#[97, 108, 108, 111, 119, 45, 111, 114, 105, 103, 105, 110]⟩ : ByteArray) (⟨#[111]⟩ : ByteArray) = some (x5, y5) ∧ transeptlaw17_allow.f (⟨#[97, 108, 108, 111, 119, 45, 99, 114, 101, 100, 101, 110, 116, 105, 97, 108, 115]⟩ : ByteArray) (⟨#[116, 114, 117, 101]⟩ : ByteArray) = some (x6, y6) ∧ cors_Check.f 60 (⟨#[111]⟩ : ByteArray) false any = some true ∧ cors_Check.f 60 (⟨#[111]⟩ : ByteArray) true any = some false ∧ cors_Check.f 60 (⟨#[111]⟩ : ByteArray) true one = some true ∧ cors_Check.f 60 (⟨#[112]⟩ : ByteArray) true one = some false ∧ cors_Age.f 60  any = some 60 ∧ cors_Age.f 60  one = some 5 ∧ cors_Preflight.f 60 (⟨#[111]⟩ : ByteArray) false (⟨#[112, 117, 116]⟩ : ByteArray) [] 204 any = some true ∧ cors_Preflight.f 60 (⟨#[111]⟩ : ByteArray) false (⟨#[112, 117, 116]⟩ : ByteArray) [(⟨#[120]⟩ : ByteArray)] 204 any = some false ∧ cors_Preflight.f 60 (⟨#[111]⟩ : ByteArray) false (⟨#[112, 117, 116]⟩ : ByteArray) [] 404 any = some false ∧ cors_Exposes.f 60 (⟨#[88, 45, 65]⟩ : ByteArray) true any = some true ∧ cors_Exposes.f 60 (⟨#[120, 45, 98]⟩ : ByteArray) true any = some false :=
  ⟨(⟨#[65, 99, 99, 101, 115, 115, 45, 67, 111, 110, 116, 114, 111, 108, 45, 65, 108, 108, 111, 119, 45, 79, 114, 105, 103, 105, 110]⟩ : ByteArray), (⟨#[42]⟩ : ByteArray), (⟨#[65, 99, 99, 101, 115, 115, 45, 67, 111, 110, 116, 114, 111, 108, 45, 65, 108, 108, 111, 119, 45, 77, 101, 116, 104, 111, 100, 115]⟩ : ByteArray), (⟨#[80, 85, 84]⟩ : ByteArray), (⟨#[65, 99, 99, 101, 115, 115, 45, 67, 111, 110, 116, 114, 111, 108, 45, 77, 97, 120, 45, 65, 103, 101]⟩ : ByteArray), (⟨#[54, 48]⟩ : ByteArray), (⟨#[65, 99, 99, 101, 115, 115, 45, 67, 111, 110, 116, 114, 111, 108, 45, 69, 120, 112, 111, 115, 101, 45, 72, 101, 97, 100, 101, 114, 115]⟩ : ByteArray), (⟨#[120, 45, 97]⟩ : ByteArray), (⟨#[65, 99, 99, 101, 115, 115, 45, 67, 111, 110, 116, 114, 111, 108, 45, 97, 108, 108, 111, 119, 45, 111, 114, 105, 103, 105, 110]⟩ : ByteArray), (⟨#[111]⟩ : ByteArray), (⟨#[65, 99, 99, 101, 115, 115, 45, 67, 111, 110, 116, 114, 111, 108, 45, 97, 108, 108, 111, 119, 45, 99, 114, 101, 100, 101, 110, 116, 105, 97, 108, 115]⟩ : ByteArray), (⟨#[116, 114, 117, 101]⟩ : ByteArray), _, _, rfl, rfl, by decide +kernel, by decide +kernel, by decide +kernel, by decide +kernel, by decide +kernel, by decide +kernel, by decide +kernel, by decide +kernel, by decide +kernel, by decide +kernel, by decide +kernel, by decide +kernel, by decide +kernel, by decide +kernel, by decide +kernel, by decide +kernel, by decide +kernel⟩
set_option maxHeartbeats 4000000 in
theorem transeptlaw17_shown.calls (k : Nat) (r : Bool) (w : World) (hT : Ext.Tabs w) (h : transeptlaw17_shown.f k = some r) :
    Calls Tryd.prog 10 #[] w fun e w' => e = .returned (.bool r) ∧ Below w.heap.size w w' := by
  obtain rfl := Option.some.inj h
  obtain ⟨x1, y1, x2, y2, x3, y3, x4, y4, x5, y5, x6, y6, any, one, hany, hone, h1, h2, h3, h4, h5, h6, h7, h8, h9, h10, h11, h12, h13, h14, h15, h16, h17⟩ := transeptlaw17_shown.facts
  have HB := Aside0.mk (Below.refl w.heap.size w)
  have HT := Aside0.mk hT
  have HANY := Aside0.mk hany
  have HONE := Aside0.mk hone
  have A1 := Aside0.mk h1
  have A2 := Aside0.mk h2
  have A3 := Aside0.mk h3
  have A4 := Aside0.mk h4
  have A5 := Aside0.mk h5
  have A6 := Aside0.mk h6
  have A7 := Aside0.mk h7
  have A8 := Aside0.mk h8
  have A9 := Aside0.mk h9
  have A10 := Aside0.mk h10
  have A11 := Aside0.mk h11
  have A12 := Aside0.mk h12
  have A13 := Aside0.mk h13
  have A14 := Aside0.mk h14
  have A15 := Aside0.mk h15
  have A16 := Aside0.mk h16
  have A17 := Aside0.mk h17
  clear h hT hany hone h1 h2 h3 h4 h5 h6 h7 h8 h9 h10 h11 h12 h13 h14 h15 h16 h17
  go_enter Tryd.func10, Tryd.ntmps10
  go_upto_region 3 with (first | (go_at_call 24; (with_reducible refine (transeptlaw17_allow.calls (⟨#[65, 108, 108, 111, 119, 45, 79, 114, 105, 103, 105, 110]⟩ : ByteArray) (⟨#[42]⟩ : ByteArray) x1 y1 _ A1.out).mono ?_); rintro e_ w' ⟨rfl, hb⟩; have n1_ := Aside0.mk (below_step (by repeat (first | (with_reducible first | exact HB.out | apply below_alloc | apply pw_below_drewN | apply below_drew1) | exact HB.out)) hb); clear HB; have HB := n1_; clear n1_; clear hb) | (go_at_call 24; (with_reducible refine (transeptlaw17_allow.calls (⟨#[65, 108, 108, 111, 119, 45, 77, 101, 116, 104, 111, 100, 115]⟩ : ByteArray) (⟨#[80, 85, 84]⟩ : ByteArray) x2 y2 _ A2.out).mono ?_); rintro e_ w' ⟨rfl, hb⟩; have n1_ := Aside0.mk (below_step (by repeat (first | (with_reducible first | exact HB.out | apply below_alloc | apply pw_below_drewN | apply below_drew1) | exact HB.out)) hb); clear HB; have HB := n1_; clear n1_; clear hb) | (go_at_call 24; (with_reducible refine (transeptlaw17_allow.calls (⟨#[77, 97, 120, 45, 65, 103, 101]⟩ : ByteArray) (⟨#[54, 48]⟩ : ByteArray) x3 y3 _ A3.out).mono ?_); rintro e_ w' ⟨rfl, hb⟩; have n1_ := Aside0.mk (below_step (by repeat (first | (with_reducible first | exact HB.out | apply below_alloc | apply pw_below_drewN | apply below_drew1) | exact HB.out)) hb); clear HB; have HB := n1_; clear n1_; clear hb) | (go_at_call 24; (with_reducible refine (transeptlaw17_allow.calls (⟨#[69, 120, 112, 111, 115, 101, 45, 72, 101, 97, 100, 101, 114, 115]⟩ : ByteArray) (⟨#[120, 45, 97]⟩ : ByteArray) x4 y4 _ A4.out).mono ?_); rintro e_ w' ⟨rfl, hb⟩; have n1_ := Aside0.mk (below_step (by repeat (first | (with_reducible first | exact HB.out | apply below_alloc | apply pw_below_drewN | apply below_drew1) | exact HB.out)) hb); clear HB; have HB := n1_; clear n1_; clear hb) | (go_at_call 24; (with_reducible refine (transeptlaw17_allow.calls (⟨#[97, 108, 108, 111, 119, 45, 111, 114, 105, 103, 105, 110]⟩ : ByteArray) (⟨#[111]⟩ : ByteArray) x5 y5 _ A5.out).mono ?_); rintro e_ w' ⟨rfl, hb⟩; have n0_ := Aside0.mk (Kd.R_below (by (with_reducible repeat (first | apply Kd.R_alloc | apply Kd.R_drewN | apply Kd.R_drew)); exact HOA.out) hb); have n1_ := Aside0.mk (below_step (by repeat (first | (with_reducible first | exact HB.out | apply below_alloc | apply pw_below_drewN | apply below_drew1) | exact HB.out)) hb); clear HOA; have HOA := n0_; clear n0_; clear HB; have HB := n1_; clear n1_; clear hb) | (go_at_call 24; (with_reducible refine (transeptlaw17_allow.calls (⟨#[97, 108, 108, 111, 119, 45, 99, 114, 101, 100, 101, 110, 116, 105, 97, 108, 115]⟩ : ByteArray) (⟨#[116, 114, 117, 101]⟩ : ByteArray) x6 y6 _ A6.out).mono ?_); rintro e_ w' ⟨rfl, hb⟩; have n0_ := Aside0.mk (Kd.R_below (by (with_reducible repeat (first | apply Kd.R_alloc | apply Kd.R_drewN | apply Kd.R_drew)); exact HOA.out) hb); have n1_ := Aside0.mk (below_step (by repeat (first | (with_reducible first | exact HB.out | apply below_alloc | apply pw_below_drewN | apply below_drew1) | exact HB.out)) hb); clear HOA; have HOA := n0_; clear n0_; clear HB; have HB := n1_; clear n1_; clear hb) | ((with_reducible refine gate_dst (N := 7) rfl ?_); (try (refine gate_guard (by rfl) ?_; dsimp only)); refine Kd.R_lit k40 _ 40 ?hg (N := 7) ?hd (xs := ([(⟨x1, y1⟩ : S40), (⟨x2, y2⟩ : S40), (⟨x3, y3⟩ : S40), (⟨x4, y4⟩ : S40)] : List S40)) (inner := [.string x1, .string y1, .string x2, .string y2, .string x3, .string y3, .string x4, .string y4]) (ok := fun _ => True) (okp := fun _ => True) ?hr ?hp (fun _ hk => hk) trivial (Below.refl _ _) (Nat.le_refl _) (by simp) ?_; (case hd => rfl); (case hg => rfl); (case hr => first | (go_simp; done) | (go_simp; rfl)); (case hp => exact (Reps.c2 (show Kd.M k40 _ _ _ (⟨x1, y1⟩ : S40) [.string x1, .string y1] from (k40_mkM _ _ _ (⟨x1, y1⟩ : S40))) (Reps.c2 (show Kd.M k40 _ _ _ (⟨x2, y2⟩ : S40) [.string x2, .string y2] from (k40_mkM _ _ _ (⟨x2, y2⟩ : S40))) (Reps.c2 (show Kd.M k40 _ _ _ (⟨x3, y3⟩ : S40) [.string x3, .string y3] from (k40_mkM _ _ _ (⟨x3, y3⟩ : S40))) (Reps.c2 (show Kd.M k40 _ _ _ (⟨x4, y4⟩ : S40) [.string x4, .string y4] from (k40_mkM _ _ _ (⟨x4, y4⟩ : S40))) (Reps.none _ _)))))); intro vA w' ho hb hg_ hnew_; clear hg_ hnew_; rw [← HANY.out] at ho; have n0_ := Aside0.mk (Kd.R_lower ho (below_size (by repeat (first | (with_reducible first | exact HB.out | apply below_alloc | apply pw_below_drewN | apply below_drew1) | exact HB.out)))); have n1_ := Aside0.mk (below_step (by repeat (first | (with_reducible first | exact HB.out | apply below_alloc | apply pw_below_drewN | apply below_drew1) | exact HB.out)) hb); clear HB; have HOA := n0_; have HB := n1_; clear n0_ n1_ hb ho) | ((with_reducible refine gate_dst (N := 10) rfl ?_); (try (refine gate_guard (by rfl) ?_; dsimp only)); refine Kd.R_lit k40 _ 40 ?hg (N := 10) ?hd (xs := ([(⟨x5, y5⟩ : S40), (⟨x6, y6⟩ : S40)] : List S40)) (inner := [.string x5, .string y5, .string x6, .string y6]) (ok := fun _ => True) (okp := fun _ => True) ?hr ?hp (fun _ hk => hk) trivial (Below.refl _ _) (Nat.le_refl _) (by simp) ?_; (case hd => rfl); (case hg => rfl); (case hr => first | (go_simp; done) | (go_simp; rfl)); (case hp => exact (Reps.c2 (show Kd.M k40 _ _ _ (⟨x5, y5⟩ : S40) [.string x5, .string y5] from (k40_mkM _ _ _ (⟨x5, y5⟩ : S40))) (Reps.c2 (show Kd.M k40 _ _ _ (⟨x6, y6⟩ : S40) [.string x6, .string y6] from (k40_mkM _ _ _ (⟨x6, y6⟩ : S40))) (Reps.none _ _)))); intro vO w' ho hb hg_ hnew_; clear hg_ hnew_; rw [← HONE.out] at ho; have n0_ := Aside0.mk (Kd.R_elder' (by (with_reducible repeat (first | apply Kd.R_alloc | apply Kd.R_drewN | apply Kd.R_drew)); exact HOA.out) (Kd.R_base ho) hb); have n1_ := Aside0.mk (Kd.R_lower (Kd.R_new' ho (Kd.R_lt (by (with_reducible repeat (first | apply Kd.R_alloc | apply Kd.R_drewN | apply Kd.R_drew)); exact HOA.out))) (below_size (by repeat (first | (with_reducible first | exact HB.out | apply below_alloc | apply pw_below_drewN | apply below_drew1) | exact HB.out)))); have n2_ := Aside0.mk (below_step (by repeat (first | (with_reducible first | exact HB.out | apply below_alloc | apply pw_below_drewN | apply below_drew1) | exact HB.out)) hb); clear HOA HB; have HOA := n0_; have HOO := n1_; have HB := n2_; clear n0_ n1_ n2_ hb ho))
  obtain ⟨AA, cA, eA⟩ := Kd.R_slice HOA.out
  subst eA
  obtain ⟨AO, cO, eO⟩ := Kd.R_slice HOO.out
  subst eO
  clear A1 A2 A3 A4 A5 A6 HANY HONE
  go_wp2_with fail
  all_goals (try (exfalso; omega))
  refine (cors_Check.calls 60 (⟨#[111]⟩ : ByteArray) false _ _ any true _ (Kd.R_reads' HOA.out).2.2 (Kd.R_reads' HOA.out).2.1 A7.out).mono ?_
  rintro e_ W0 ⟨rfl, hb⟩
  have N1 := Aside0.mk (Kd.R_below HOA.out hb)
  have N2 := Aside0.mk (Kd.R_below HOO.out hb)
  have N3 := Aside0.mk (below_step HB.out hb)
  clear HOA HOO HB hb
  have HOA := N1
  have HOO := N2
  have HB := N3
  clear N1 N2 N3
  go_wp2_with fail
  all_goals (try (exfalso; omega))
  refine (cors_Check.calls 60 (⟨#[111]⟩ : ByteArray) true _ _ any false _ (Kd.R_reads' HOA.out).2.2 (Kd.R_reads' HOA.out).2.1 A8.out).mono ?_
  rintro e_ W1 ⟨rfl, hb⟩
  have N1 := Aside0.mk (Kd.R_below HOA.out hb)
  have N2 := Aside0.mk (Kd.R_below HOO.out hb)
  have N3 := Aside0.mk (below_step HB.out hb)
  clear HOA HOO HB hb
  have HOA := N1
  have HOO := N2
  have HB := N3
  clear N1 N2 N3
  go_wp2_with fail
  all_goals (try (exfalso; omega))
  refine (cors_Check.calls 60 (⟨#[111]⟩ : ByteArray) true _ _ one true _ (Kd.R_reads' HOO.out).2.2 (Kd.R_reads' HOO.out).2.1 A9.out).mono ?_
  rintro e_ W2 ⟨rfl, hb⟩
  have N1 := Aside0.mk (Kd.R_below HOA.out hb)
  have N2 := Aside0.mk (Kd.R_below HOO.out hb)
  have N3 := Aside0.mk (below_step HB.out hb)
  clear HOA HOO HB hb
  have HOA := N1
  have HOO := N2
  have HB := N3
  clear N1 N2 N3
  go_wp2_with fail
  all_goals (try (exfalso; omega))
  refine (cors_Check.calls 60 (⟨#[112]⟩ : ByteArray) true _ _ one false _ (Kd.R_reads' HOO.out).2.2 (Kd.R_reads' HOO.out).2.1 A10.out).mono ?_
  rintro e_ W3 ⟨rfl, hb⟩
  have N1 := Aside0.mk (Kd.R_below HOA.out hb)
  have N2 := Aside0.mk (Kd.R_below HOO.out hb)
  have N3 := Aside0.mk (below_step HB.out hb)
  clear HOA HOO HB hb
  have HOA := N1
  have HOO := N2
  have HB := N3
  clear N1 N2 N3
  go_wp2_with fail
  all_goals (try (exfalso; omega))
  refine (cors_Age.calls 60 _ _ any 60 _ (Kd.R_reads' HOA.out).2.2 (Kd.R_reads' HOA.out).2.1 A11.out).mono ?_
  rintro e_ W4 ⟨rfl, hb⟩
  have N1 := Aside0.mk (Kd.R_below HOA.out hb)
  have N2 := Aside0.mk (Kd.R_below HOO.out hb)
  have N3 := Aside0.mk (below_step HB.out hb)
  clear HOA HOO HB hb
  have HOA := N1
  have HOO := N2
  have HB := N3
  clear N1 N2 N3
  go_wp2_with fail
  all_goals (try (exfalso; omega))
  refine (cors_Age.calls 60 _ _ one 5 _ (Kd.R_reads' HOO.out).2.2 (Kd.R_reads' HOO.out).2.1 A12.out).mono ?_
  rintro e_ W5 ⟨rfl, hb⟩
  have N1 := Aside0.mk (Kd.R_below HOA.out hb)
  have N2 := Aside0.mk (Kd.R_below HOO.out hb)
  have N3 := Aside0.mk (below_step HB.out hb)
  clear HOA HOO HB hb
  have HOA := N1
  have HOO := N2
  have HB := N3
  clear N1 N2 N3
  go_wp2_with fail
  all_goals (try (exfalso; omega))
  refine (cors_Preflight.calls 60 (⟨#[111]⟩ : ByteArray) false (⟨#[112, 117, 116]⟩ : ByteArray) none 0 ([] : List ByteArray) 204 _ _ any true _ (Ext.tabs_at HT.out HB.out) (Kd.C_nil _ _) (Nat.le_refl _) (Kd.R_reads' HOA.out).2.2 (Kd.R_reads' HOA.out).2.1 A13.out).mono ?_
  rintro e_ W6 ⟨rfl, hb⟩
  have N1 := Aside0.mk (Kd.R_below HOA.out hb)
  have N2 := Aside0.mk (Kd.R_below HOO.out hb)
  have N3 := Aside0.mk (below_step HB.out hb)
  clear HOA HOO HB hb
  have HOA := N1
  have HOO := N2
  have HB := N3
  clear N1 N2 N3
  obtain ⟨lx, hlx⟩ : ∃ l : List ByteArray, l = [(⟨#[120]⟩ : ByteArray)] := ⟨_, rfl⟩
  have HLX := Aside0.mk hlx
  have A14' := Aside0.mk (show cors_Preflight.f 60 (⟨#[111]⟩ : ByteArray) false (⟨#[112, 117, 116]⟩ : ByteArray) lx 204 any = some false by rw [hlx]; exact A14.out)
  clear hlx
  go_wp2_with (first | ((with_reducible refine gate_dst (N := 42) rfl ?_); (try (refine gate_guard (by rfl) ?_; dsimp only)); refine Kd.R_lit Kd.string _ 9 ?hg (N := 42) ?hd (xs := ([(⟨#[120]⟩ : ByteArray)] : List ByteArray)) (inner := [.string (⟨#[120]⟩ : ByteArray)]) (ok := fun _ => True) (okp := fun _ => True) ?hr ?hp (fun _ hk => hk) trivial (Below.refl _ _) (Nat.le_refl _) (by simp) ?_; (case hd => rfl); (case hg => rfl); (case hr => first | (go_simp; done) | (go_simp; rfl)); (case hp => exact (Reps.one (show Kd.M Kd.string _ _ _ (⟨#[120]⟩ : ByteArray) [.string (⟨#[120]⟩ : ByteArray)] from rfl) (Reps.none _ _))); intro vX WX ho hb hg_ hnew_; clear hg_ hnew_; rw [← HLX.out] at ho; have n0_ := Aside0.mk (Kd.R_below (by (with_reducible repeat (first | apply Kd.R_alloc | apply Kd.R_drewN | apply Kd.R_drew)); exact HOA.out) hb); have n3_ := Aside0.mk (Kd.R_below (by (with_reducible repeat (first | apply Kd.R_alloc | apply Kd.R_drewN | apply Kd.R_drew)); exact HOO.out) hb); have n1_ := Aside0.mk (Kd.R_lower ho (below_size (by repeat (first | (with_reducible first | exact HB.out | apply below_alloc | apply pw_below_drewN | apply below_drew1) | exact HB.out)))); have n2_ := Aside0.mk (below_step (by repeat (first | (with_reducible first | exact HB.out | apply below_alloc | apply pw_below_drewN | apply below_drew1) | exact HB.out)) hb); clear HOA HOO HB; have HOA := n0_; have HOO := n3_; have HOX := n1_; have HB := n2_; clear n0_ n1_ n2_ n3_ hb ho; obtain ⟨AX, cX, eX⟩ := Kd.R_slice HOX.out; subst eX))
  all_goals (try (exfalso; omega))
  refine (cors_Preflight.calls 60 (⟨#[111]⟩ : ByteArray) false (⟨#[112, 117, 116]⟩ : ByteArray) _ _ lx 204 _ _ any false _ (Ext.tabs_at HT.out HB.out) (Kd.R_reads' HOX.out).2.2 (Kd.R_reads' HOX.out).2.1 (Kd.R_reads' HOA.out).2.2 (Kd.R_reads' HOA.out).2.1 A14'.out).mono ?_
  rintro e_ W7 ⟨rfl, hb⟩
  have N1 := Aside0.mk (Kd.R_below HOA.out hb)
  have N3 := Aside0.mk (below_step HB.out hb)
  clear HOA HB hb
  have HOA := N1
  have HB := N3
  clear N1 N3
  clear HOO HOX HLX A14'
  go_wp2_with fail
  all_goals (try (exfalso; omega))
  refine (cors_Preflight.calls 60 (⟨#[111]⟩ : ByteArray) false (⟨#[112, 117, 116]⟩ : ByteArray) none 0 ([] : List ByteArray) 404 _ _ any false _ (Ext.tabs_at HT.out HB.out) (Kd.C_nil _ _) (Nat.le_refl _) (Kd.R_reads' HOA.out).2.2 (Kd.R_reads' HOA.out).2.1 A15.out).mono ?_
  rintro e_ W8 ⟨rfl, hb⟩
  have N1 := Aside0.mk (Kd.R_below HOA.out hb)
  have N3 := Aside0.mk (below_step HB.out hb)
  clear HOA HB hb
  have HOA := N1
  have HB := N3
  clear N1 N3
  go_wp2_with fail
  all_goals (try (exfalso; omega))
  refine (cors_Exposes.calls 60 (⟨#[88, 45, 65]⟩ : ByteArray) true _ _ any true _ (Ext.tabs_at HT.out HB.out) (Kd.R_reads' HOA.out).2.2 (Kd.R_reads' HOA.out).2.1 A16.out).mono ?_
  rintro e_ W9 ⟨rfl, hb⟩
  have N1 := Aside0.mk (Kd.R_below HOA.out hb)
  have N3 := Aside0.mk (below_step HB.out hb)
  clear HOA HB hb
  have HOA := N1
  have HB := N3
  clear N1 N3
  go_wp2_with fail
  all_goals (try (exfalso; omega))
  refine (cors_Exposes.calls 60 (⟨#[120, 45, 98]⟩ : ByteArray) true _ _ any false _ (Ext.tabs_at HT.out HB.out) (Kd.R_reads' HOA.out).2.2 (Kd.R_reads' HOA.out).2.1 A17.out).mono ?_
  rintro e_ W10 ⟨rfl, hb⟩
  have N1 := Aside0.mk (Kd.R_below HOA.out hb)
  have N3 := Aside0.mk (below_step HB.out hb)
  clear HOA HB hb
  have HOA := N1
  have HB := N3
  clear N1 N3
  go_wp2
  all_goals (try (exfalso; omega))
  go_ret
  exact ⟨rfl, HB.out⟩

/-! ### transeptlaw17_few: function 11 -/
/-! ### transeptref09_Lower: function 52 -/
/-! ### transeptref10_All: function 56 -/
/-! ### transeptref10_Only: function 31 -/
/-! ### transeptref17_Check: function 13 -/
end Go.Proofs.YtaabfmpoodjhjaaDoor.Fun
