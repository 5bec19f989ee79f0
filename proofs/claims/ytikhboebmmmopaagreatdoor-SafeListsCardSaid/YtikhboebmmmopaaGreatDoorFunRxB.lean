-- Written by xprint.py, a program of this session's, by means of the kit's print. Not trusted: Lean checks it.
import Derived.Test.YtikhboebmmmopaaGreatDoorFun4xB
namespace Go.Proofs.YtikhboebmmmopaaGreatDoor.Fun
open Go.RowKit Go.Proofs.YtikhboebmmmopaaGreatDoorW.PrintWords Go.Proofs.YtikhboebmmmopaaGreatDoorW.PrintLast Go.Proofs.YtikhboebmmmopaaGreatDoorW.PrintMore
attribute [local go_sem] max2_int min2_int max_two min_two max_three min_three max_four min_four   -- for this text's walks alone
set_option linter.unusedVariables false
set_option linter.unusedSimpArgs false

/-! ### transeptref12_ranged: function 29 -/
mutual
def transeptref12_ranged.j0 : Nat → ByteArray → Bool → Option (Bool)
  | 0, _, _ => none
  | k + 1, x0, x15 => if x15 = true then (some false) else (if 6 ≤ (x0.size : Int) then (transeptref12_ranged.l0 k (x0.extract 6 x0.size) 0) else (none))
def transeptref12_ranged.l0 : Nat → ByteArray → Int → Option (Bool)
  | 0, _, _ => none
  | k + 1, x0, x3 => if x3 < (x0.size : Int) then (if 0 ≤ x3 then (if (bt x0 x3) = 45 then (if x3 ≤ (x0.size : Int) then ((transeptref10_Number.f k (x0.extract 0 (x3 : Int).toNat) 1000000000).bind fun bt177 => (if 0 ≤ (wrap64 (x3 + 1)) then (if (wrap64 (x3 + 1)) ≤ (x0.size : Int) then ((transeptref10_Number.f k (x0.extract ((wrap64 (x3 + 1)) : Int).toNat x0.size) 1000000000).bind fun bt179 => (if bt177.2 = true then (if (wrap64 (x3 + 1)) = (x0.size : Int) then (some true) else (if bt179.2 = true then (some (decide (bt179.1 ≥ bt177.1))) else (some false))) else (some false))) else (none)) else (none))) else (none)) else (transeptref12_ranged.l0 k x0 (wrap64 (x3 + 1)))) else (none)) else (some false)
end
def transeptref12_ranged.f (k : Nat) (a0 : ByteArray) : Option (Bool) := if (a0.size : Int) < 6 then (transeptref12_ranged.j0 k a0 true) else (if 0 ≤ 6 then (if 6 ≤ (a0.size : Int) then (transeptref12_ranged.j0 k a0 ((a0.extract 0 6).toList != ([98, 121, 116, 101, 115, 61] : List UInt8))) else (none)) else (none))
set_option maxHeartbeats 8000000 in
set_option maxRecDepth 100000 in
theorem transeptref12_ranged.calls (k : Nat) (a0 : ByteArray) (r : Bool) (w : World) (h : transeptref12_ranged.f k a0 = some r) :
    Calls Tryz.prog 29 #[.string a0] w fun e w' => e = .returned (.bool r) ∧ Below w.heap.size w w' := by
  have HB := Aside0.mk (Below.refl w.heap.size w)
  have H : (if (a0.size : Int) < 6 then (transeptref12_ranged.j0 k a0 true) else (if 0 ≤ 6 then (if 6 ≤ (a0.size : Int) then (transeptref12_ranged.j0 k a0 ((a0.extract 0 6).toList != ([98, 121, 116, 101, 115, 61] : List UInt8))) else (none)) else (none))) = some r := h
  clear h
  have HC2 := Aside0.mk H
  clear H
  go_enter Tryz.func29, Tryz.ntmps29
  go_upto_region 1 with (fail)
  go_cut [15] (fun v15 wc => ∃ (kq : Nat) (x15_1 : Bool), v15 = .bool x15_1 ∧ Aside0 (transeptref12_ranged.j0 kq a0 x15_1 = some r) ∧ Aside0 (kq ≤ k) ∧ Aside0 (Below w.heap.size w wc))
  case first =>
    have H := HC2.out
    clear HC2
    by_cases c3 : (a0.size : Int) < 6
    · rw [if_pos c3] at H
      have c3b0 : decide ((a0.size : Int) < 6) = true := decide_eq_true c3
      have c3b1 : decide (a0.size < 6) = true := decide_eq_true (by omega)
      (first | rw [c3b0] | (simp only [i64_w, i32_w]; rw [c3b0]) | skip)
      have H' := Aside0.mk H
      clear H
      go_wp2
      all_goals (try (exfalso; omega))
      go_meet
      case rel => exact ⟨_, (true), (by first | rfl | (simp; done) | (simp [*]; done) | (congr 1; unfold wrap64; omega) | (simp; simp only [decide_eq_false_iff_not, decide_eq_true_eq] at *; congr 2; omega)), H', ⟨by first | omega | exact Nat.le_refl _⟩, ⟨by repeat (first | (with_reducible first | exact HB.out | apply below_alloc | apply pw_below_drewN | apply below_drew1) | exact HB.out)⟩⟩
    · rw [if_neg c3] at H
      have c3b0 : decide ((a0.size : Int) < 6) = false := decide_eq_false c3
      have c3b1 : decide (a0.size < 6) = false := decide_eq_false (by omega)
      (first | rw [c3b0] | (simp only [i64_w, i32_w]; rw [c3b0]) | skip)
      by_cases c4 : 0 ≤ 6
      · rw [if_pos c4] at H
        have c4b0 := eq_true c4
        have c4b1 : decide (0 ≤ 6) = true := decide_eq_true c4
        by_cases c5 : 6 ≤ (a0.size : Int)
        · rw [if_pos c5] at H
          have c5b0 := eq_true c5
          have c5b1 : decide (6 ≤ (a0.size : Int)) = true := decide_eq_true c5
          have H' := Aside0.mk H
          clear H
          go_wp2
          all_goals (try (exfalso; omega))
          go_meet
          case rel => exact ⟨_, (((a0.extract 0 6).toList != ([98, 121, 116, 101, 115, 61] : List UInt8))), (by first | rfl | (simp; done) | (simp [*]; done) | (congr 1; unfold wrap64; omega) | (simp; simp only [decide_eq_false_iff_not, decide_eq_true_eq] at *; congr 2; omega)), H', ⟨by first | omega | exact Nat.le_refl _⟩, ⟨by repeat (first | (with_reducible first | exact HB.out | apply below_alloc | apply pw_below_drewN | apply below_drew1) | exact HB.out)⟩⟩
        · rw [if_neg c5] at H
          exact absurd H (by simp)
      · rw [if_neg c4] at H
        exact absurd H (by simp)
  case rest =>
    clear HC2
    try clear c2
    try clear p2
    try clear c3
    try clear c3b0
    try clear c3b1
    try clear c4
    try clear c4b0
    try clear c4b1
    try clear c5
    try clear c5b0
    try clear c5b1
    obtain ⟨kq, x15_1, rfl, HA, HJ1, HB⟩ := hcut
    cases kq with
    | zero => exact absurd HA.out (by simp [transeptref12_ranged.j0])
    | succ kj1 =>
      have H := HA.out
      clear HA
      simp only [transeptref12_ranged.j0] at H
      by_cases c6 : x15_1 = true
      · subst c6
        have H1 : (some false) = some r := by rw [if_pos rfl] at H; exact H
        clear H
        have H := H1
        clear H1
        obtain rfl := Option.some.inj H
        go_wp2
        all_goals (try (exfalso; omega))
        all_goals go_ret
        all_goals exact ⟨by first | rfl | (simp [errW_none, errW_some] <;> rfl) | (simp [*, errW_none, errW_some] <;> rfl) | (simp [Ext.ne_nil_empty]; done), by repeat (first | (with_reducible first | exact HB.out | apply below_alloc | apply pw_below_drewN | apply below_drew1) | exact HB.out)⟩
      · replace c6 := Bool.eq_false_iff.mpr c6
        subst c6
        have H1 : (if 6 ≤ (a0.size : Int) then (transeptref12_ranged.l0 kj1 (a0.extract 6 a0.size) 0) else (none)) = some r := by rw [if_neg (show ¬ (false = true) by decide)] at H; exact H
        clear H
        have H := H1
        clear H1
        by_cases c7 : 6 ≤ (a0.size : Int)
        · rw [if_pos c7] at H
          have c7b0 := eq_true c7
          have c7b1 : decide (6 ≤ (a0.size : Int)) = true := decide_eq_true c7
          have H' := Aside0.mk H
          clear H
          go_wp2
          all_goals (try (exfalso; omega))
          obtain ⟨pt_, hpt_⟩ : ∃ x_ : ByteArray, a0.extract 6 a0.size = x_ := ⟨_, rfl⟩
          rw [hpt_]
          rw [hpt_] at H'
          go_loopg [3] kj1 (fun kq v3 w' => ∃ (x3_2 : Int), v3 = .int .i64 x3_2 ∧ Aside0 (transeptref12_ranged.l0 kq pt_ x3_2 = some r) ∧ Aside0 (kq ≤ kj1) ∧ Aside0 (Below w.heap.size w w'))
          case atStart => exact ⟨(0), (by first | rfl | (simp; done) | (simp [*]; done) | (congr 1; unfold wrap64; omega) | (simp; simp only [decide_eq_false_iff_not, decide_eq_true_eq] at *; congr 2; omega)), H', ⟨Nat.le_refl _⟩, ⟨by repeat (first | (with_reducible first | exact HB.out | apply below_alloc | apply pw_below_drewN | apply below_drew1) | exact HB.out)⟩⟩
          case round =>
            clear H'
            try clear c2
            try clear p2
            try clear c3
            try clear c3b0
            try clear c3b1
            try clear c4
            try clear c4b0
            try clear c4b1
            try clear c5
            try clear c5b0
            try clear c5b1
            try clear c6
            try clear c7
            try clear c7b0
            try clear c7b1
            try clear p2
            obtain ⟨x3_2, rfl, HA, HK2, HB⟩ := hrel
            cases gk with
            | zero => exact absurd HA.out (by simp [transeptref12_ranged.l0])
            | succ k2 =>
              have H := HA.out
              clear HA
              simp only [transeptref12_ranged.l0] at H
              by_cases c8 : x3_2 < (pt_.size : Int)
              · rw [if_pos c8] at H
                have c8b0 : decide (x3_2 < (pt_.size : Int)) = true := decide_eq_true c8
                by_cases c9 : 0 ≤ x3_2
                · rw [if_pos c9] at H
                  have c9b0 : decide (0 ≤ x3_2) = true := decide_eq_true c9
                  by_cases c11 : (bt pt_ x3_2) = 45
                  · rw [if_pos c11] at H
                    have c11b0 : ((bt pt_ x3_2) == 45) = true := beq_iff_eq.mpr c11
                    have c11b1 : ((bt pt_ x3_2) != 45) = false := bne_eq_false_iff_eq.mpr c11
                    clear c11
                    have c12b0 := eq_true (of_decide_eq_true (by first | (with_reducible assumption) | assumption) : 0 ≤ x3_2)
                    by_cases c13 : x3_2 ≤ (pt_.size : Int)
                    · rw [if_pos c13] at H
                      have c13b0 := eq_true c13
                      have c13b1 : decide (x3_2 ≤ (pt_.size : Int)) = true := decide_eq_true c13
                      replace H := Option.bind_eq_some_iff.mp H
                      obtain ⟨⟨t177, t178⟩, A140, H⟩ := H
                      replace H : (if 0 ≤ (wrap64 (x3_2 + 1)) then (if (wrap64 (x3_2 + 1)) ≤ (pt_.size : Int) then ((transeptref10_Number.f k2 (pt_.extract ((wrap64 (x3_2 + 1)) : Int).toNat pt_.size) 1000000000).bind fun bt179 => (if t178 = true then (if (wrap64 (x3_2 + 1)) = (pt_.size : Int) then (some true) else (if bt179.2 = true then (some (decide (bt179.1 ≥ t177))) else (some false))) else (some false))) else (none)) else (none)) = some r := H
                      have A14 := Aside0.mk A140
                      clear A140
                      obtain ⟨ji15, hji15⟩ : ∃ j_ : Int, (wrap64 (x3_2 + 1)) = j_ := ⟨_, rfl⟩
                      replace H : (if 0 ≤ (ji15) then (if (ji15) ≤ (pt_.size : Int) then ((transeptref10_Number.f k2 (pt_.extract ((ji15) : Int).toNat pt_.size) 1000000000).bind fun bt179 => (if t178 = true then (if (ji15) = (pt_.size : Int) then (some true) else (if bt179.2 = true then (some (decide (bt179.1 ≥ t177))) else (some false))) else (some false))) else (none)) else (none)) = some r := by first | (rw [hji15] at H; exact H) | (simp only [hji15] at H ⊢; exact H)
                      (try rw [hji15] at A14)
                      have hji15w : (IntKind.i64.wrap (x3_2 + 1)) = ji15 := (i64_w _).trans hji15
                      by_cases c16 : 0 ≤ (ji15)
                      · rw [if_pos c16] at H
                        have c16b0 := eq_true c16
                        have c16b1 : decide (0 ≤ (ji15)) = true := decide_eq_true c16
                        by_cases c17 : (ji15) ≤ (pt_.size : Int)
                        · rw [if_pos c17] at H
                          have c17b0 := eq_true c17
                          have c17b1 : decide ((ji15) ≤ (pt_.size : Int)) = true := decide_eq_true c17
                          replace H := Option.bind_eq_some_iff.mp H
                          obtain ⟨⟨t179, t180⟩, A180, H⟩ := H
                          replace H : (if t178 = true then (if (ji15) = (pt_.size : Int) then (some true) else (if t180 = true then (some (decide (t179 ≥ t177))) else (some false))) else (some false)) = some r := H
                          have A18 := Aside0.mk A180
                          clear A180
                          by_cases c19 : t178 = true
                          · subst c19
                            have H1 : (if (ji15) = (pt_.size : Int) then (some true) else (if t180 = true then (some (decide (t179 ≥ t177))) else (some false))) = some r := by rw [if_pos rfl] at H; exact H
                            clear H
                            have H := H1
                            clear H1
                            by_cases c20 : (ji15) = (pt_.size : Int)
                            · rw [if_pos c20] at H
                              have c20b0 : ((ji15) == (pt_.size : Int)) = true := beq_iff_eq.mpr c20
                              have c20b1 : ((ji15) != (pt_.size : Int)) = false := bne_eq_false_iff_eq.mpr c20
                              clear c20
                              obtain rfl := Option.some.inj H
                              have p10 : 0 ≤ (x3_2 : Int) := of_decide_eq_true (by first | (with_reducible assumption) | assumption)
                              have q10 : x3_2 < (pt_.size : Int) := of_decide_eq_true (by first | (with_reducible assumption) | assumption)
                              have hx10 := bt_at pt_ x3_2
                              replace p10 := eq_true p10
                              replace q10 := eq_true q10
                              go_wp2_with (first | ((with_reducible refine gate_callee (f := 48) rfl ?_); refine goesL_ (some 32) rfl rfl Tryz.func48 (by kernel_rfl) rfl #[.string (pt_.extract 0 (x3_2 : Int).toNat), .int .i64 1000000000] rfl (by (try simp only [List.map_toArray, List.map_cons, List.map_nil]); first | done | rfl | (simp only [List.length_drop, List.length_take]; rfl)) ?_; (with_reducible refine (transeptref10_Number.calls k2 (pt_.extract 0 (x3_2 : Int).toNat) 1000000000 t177 true _ A14.out).mono ?_); rintro e w21 ⟨rfl, hb⟩; refine ⟨_, rfl, ?_⟩; have n0_ := Aside0.mk (below_step (by repeat (first | (with_reducible first | exact HB.out | apply below_alloc | apply pw_below_drewN | apply below_drew1) | exact HB.out)) hb); clear HB; have HB := n0_; clear n0_; (try clear hb); (try clear hb2); (try clear hk); (try clear hi)) | ((with_reducible refine gate_callee (f := 48) rfl ?_); refine goesL_ (some 40) rfl rfl Tryz.func48 (by kernel_rfl) rfl #[.string (pt_.extract ((ji15) : Int).toNat pt_.size), .int .i64 1000000000] rfl (by (try simp only [List.map_toArray, List.map_cons, List.map_nil]); first | done | (simp only [hji15]; rfl) | rfl | (simp only [List.length_drop, List.length_take]; rfl)) ?_; (with_reducible refine (transeptref10_Number.calls k2 (pt_.extract ((ji15) : Int).toNat pt_.size) 1000000000 t179 t180 _ A18.out).mono ?_); rintro e w22 ⟨rfl, hb⟩; refine ⟨_, rfl, ?_⟩; have n0_ := Aside0.mk (below_step (by repeat (first | (with_reducible first | exact HB.out | apply below_alloc | apply pw_below_drewN | apply below_drew1) | exact HB.out)) hb); clear HB; have HB := n0_; clear n0_; (try clear hb); (try clear hb2); (try clear hk); (try clear hi)))
                              all_goals (try (exfalso; omega))
                              all_goals go_ret
                              all_goals exact ⟨by first | rfl | (simp [errW_none, errW_some] <;> rfl) | (simp only [← hji15]; first | rfl | (simp [errW_none, errW_some] <;> rfl)) | (simp [*, errW_none, errW_some] <;> rfl), by repeat (first | (with_reducible first | exact HB.out | apply below_alloc | apply pw_below_drewN | apply below_drew1) | exact HB.out)⟩
                            · rw [if_neg c20] at H
                              have c20b0 : ((ji15) == (pt_.size : Int)) = false := beq_eq_false_iff_ne.mpr c20
                              have c20b1 : ((ji15) != (pt_.size : Int)) = true := bne_iff_ne.mpr c20
                              by_cases c23 : t180 = true
                              · subst c23
                                have H1 : (some (decide (t179 ≥ t177))) = some r := by rw [if_pos rfl] at H; exact H
                                clear H
                                have H := H1
                                clear H1
                                obtain rfl := Option.some.inj H
                                have p10 : 0 ≤ (x3_2 : Int) := of_decide_eq_true (by first | (with_reducible assumption) | assumption)
                                have q10 : x3_2 < (pt_.size : Int) := of_decide_eq_true (by first | (with_reducible assumption) | assumption)
                                have hx10 := bt_at pt_ x3_2
                                replace p10 := eq_true p10
                                replace q10 := eq_true q10
                                go_wp2_with (first | ((with_reducible refine gate_callee (f := 48) rfl ?_); refine goesL_ (some 32) rfl rfl Tryz.func48 (by kernel_rfl) rfl #[.string (pt_.extract 0 (x3_2 : Int).toNat), .int .i64 1000000000] rfl (by (try simp only [List.map_toArray, List.map_cons, List.map_nil]); first | done | rfl | (simp only [List.length_drop, List.length_take]; rfl)) ?_; (with_reducible refine (transeptref10_Number.calls k2 (pt_.extract 0 (x3_2 : Int).toNat) 1000000000 t177 true _ A14.out).mono ?_); rintro e w24 ⟨rfl, hb⟩; refine ⟨_, rfl, ?_⟩; have n0_ := Aside0.mk (below_step (by repeat (first | (with_reducible first | exact HB.out | apply below_alloc | apply pw_below_drewN | apply below_drew1) | exact HB.out)) hb); clear HB; have HB := n0_; clear n0_; (try clear hb); (try clear hb2); (try clear hk); (try clear hi)) | ((with_reducible refine gate_callee (f := 48) rfl ?_); refine goesL_ (some 40) rfl rfl Tryz.func48 (by kernel_rfl) rfl #[.string (pt_.extract ((ji15) : Int).toNat pt_.size), .int .i64 1000000000] rfl (by (try simp only [List.map_toArray, List.map_cons, List.map_nil]); first | done | (simp only [hji15]; rfl) | rfl | (simp only [List.length_drop, List.length_take]; rfl)) ?_; (with_reducible refine (transeptref10_Number.calls k2 (pt_.extract ((ji15) : Int).toNat pt_.size) 1000000000 t179 true _ A18.out).mono ?_); rintro e w25 ⟨rfl, hb⟩; refine ⟨_, rfl, ?_⟩; have n0_ := Aside0.mk (below_step (by repeat (first | (with_reducible first | exact HB.out | apply below_alloc | apply pw_below_drewN | apply below_drew1) | exact HB.out)) hb); clear HB; have HB := n0_; clear n0_; (try clear hb); (try clear hb2); (try clear hk); (try clear hi)))
                                all_goals (try (exfalso; omega))
                                all_goals go_ret
                                all_goals exact ⟨by first | rfl | (simp [errW_none, errW_some] <;> rfl) | (simp only [← hji15]; first | rfl | (simp [errW_none, errW_some] <;> rfl)) | (simp [*, errW_none, errW_some] <;> rfl), by repeat (first | (with_reducible first | exact HB.out | apply below_alloc | apply pw_below_drewN | apply below_drew1) | exact HB.out)⟩
                              · replace c23 := Bool.eq_false_iff.mpr c23
                                subst c23
                                have H1 : (some false) = some r := by rw [if_neg (show ¬ (false = true) by decide)] at H; exact H
                                clear H
                                have H := H1
                                clear H1
                                obtain rfl := Option.some.inj H
                                have p10 : 0 ≤ (x3_2 : Int) := of_decide_eq_true (by first | (with_reducible assumption) | assumption)
                                have q10 : x3_2 < (pt_.size : Int) := of_decide_eq_true (by first | (with_reducible assumption) | assumption)
                                have hx10 := bt_at pt_ x3_2
                                replace p10 := eq_true p10
                                replace q10 := eq_true q10
                                go_wp2_with (first | ((with_reducible refine gate_callee (f := 48) rfl ?_); refine goesL_ (some 32) rfl rfl Tryz.func48 (by kernel_rfl) rfl #[.string (pt_.extract 0 (x3_2 : Int).toNat), .int .i64 1000000000] rfl (by (try simp only [List.map_toArray, List.map_cons, List.map_nil]); first | done | rfl | (simp only [List.length_drop, List.length_take]; rfl)) ?_; (with_reducible refine (transeptref10_Number.calls k2 (pt_.extract 0 (x3_2 : Int).toNat) 1000000000 t177 true _ A14.out).mono ?_); rintro e w26 ⟨rfl, hb⟩; refine ⟨_, rfl, ?_⟩; have n0_ := Aside0.mk (below_step (by repeat (first | (with_reducible first | exact HB.out | apply below_alloc | apply pw_below_drewN | apply below_drew1) | exact HB.out)) hb); clear HB; have HB := n0_; clear n0_; (try clear hb); (try clear hb2); (try clear hk); (try clear hi)) | ((with_reducible refine gate_callee (f := 48) rfl ?_); refine goesL_ (some 40) rfl rfl Tryz.func48 (by kernel_rfl) rfl #[.string (pt_.extract ((ji15) : Int).toNat pt_.size), .int .i64 1000000000] rfl (by (try simp only [List.map_toArray, List.map_cons, List.map_nil]); first | done | (simp only [hji15]; rfl) | rfl | (simp only [List.length_drop, List.length_take]; rfl)) ?_; (with_reducible refine (transeptref10_Number.calls k2 (pt_.extract ((ji15) : Int).toNat pt_.size) 1000000000 t179 false _ A18.out).mono ?_); rintro e w27 ⟨rfl, hb⟩; refine ⟨_, rfl, ?_⟩; have n0_ := Aside0.mk (below_step (by repeat (first | (with_reducible first | exact HB.out | apply below_alloc | apply pw_below_drewN | apply below_drew1) | exact HB.out)) hb); clear HB; have HB := n0_; clear n0_; (try clear hb); (try clear hb2); (try clear hk); (try clear hi)))
                                all_goals (try (exfalso; omega))
                                all_goals go_ret
                                all_goals exact ⟨by first | rfl | (simp [errW_none, errW_some] <;> rfl) | (simp only [← hji15]; first | rfl | (simp [errW_none, errW_some] <;> rfl)) | (simp [*, errW_none, errW_some] <;> rfl), by repeat (first | (with_reducible first | exact HB.out | apply below_alloc | apply pw_below_drewN | apply below_drew1) | exact HB.out)⟩
                          · replace c19 := Bool.eq_false_iff.mpr c19
                            subst c19
                            have H1 : (some false) = some r := by rw [if_neg (show ¬ (false = true) by decide)] at H; exact H
                            clear H
                            have H := H1
                            clear H1
                            obtain rfl := Option.some.inj H
                            have p10 : 0 ≤ (x3_2 : Int) := of_decide_eq_true (by first | (with_reducible assumption) | assumption)
                            have q10 : x3_2 < (pt_.size : Int) := of_decide_eq_true (by first | (with_reducible assumption) | assumption)
                            have hx10 := bt_at pt_ x3_2
                            replace p10 := eq_true p10
                            replace q10 := eq_true q10
                            go_wp2_with (first | ((with_reducible refine gate_callee (f := 48) rfl ?_); refine goesL_ (some 32) rfl rfl Tryz.func48 (by kernel_rfl) rfl #[.string (pt_.extract 0 (x3_2 : Int).toNat), .int .i64 1000000000] rfl (by (try simp only [List.map_toArray, List.map_cons, List.map_nil]); first | done | rfl | (simp only [List.length_drop, List.length_take]; rfl)) ?_; (with_reducible refine (transeptref10_Number.calls k2 (pt_.extract 0 (x3_2 : Int).toNat) 1000000000 t177 false _ A14.out).mono ?_); rintro e w28 ⟨rfl, hb⟩; refine ⟨_, rfl, ?_⟩; have n0_ := Aside0.mk (below_step (by repeat (first | (with_reducible first | exact HB.out | apply below_alloc | apply pw_below_drewN | apply below_drew1) | exact HB.out)) hb); clear HB; have HB := n0_; clear n0_; (try clear hb); (try clear hb2); (try clear hk); (try clear hi)) | ((with_reducible refine gate_callee (f := 48) rfl ?_); refine goesL_ (some 40) rfl rfl Tryz.func48 (by kernel_rfl) rfl #[.string (pt_.extract ((ji15) : Int).toNat pt_.size), .int .i64 1000000000] rfl (by (try simp only [List.map_toArray, List.map_cons, List.map_nil]); first | done | (simp only [hji15]; rfl) | rfl | (simp only [List.length_drop, List.length_take]; rfl)) ?_; (with_reducible refine (transeptref10_Number.calls k2 (pt_.extract ((ji15) : Int).toNat pt_.size) 1000000000 t179 t180 _ A18.out).mono ?_); rintro e w29 ⟨rfl, hb⟩; refine ⟨_, rfl, ?_⟩; have n0_ := Aside0.mk (below_step (by repeat (first | (with_reducible first | exact HB.out | apply below_alloc | apply pw_below_drewN | apply below_drew1) | exact HB.out)) hb); clear HB; have HB := n0_; clear n0_; (try clear hb); (try clear hb2); (try clear hk); (try clear hi)))
                            all_goals (try (exfalso; omega))
                            all_goals go_ret
                            all_goals exact ⟨by first | rfl | (simp [errW_none, errW_some] <;> rfl) | (simp only [← hji15]; first | rfl | (simp [errW_none, errW_some] <;> rfl)) | (simp [*, errW_none, errW_some] <;> rfl), by repeat (first | (with_reducible first | exact HB.out | apply below_alloc | apply pw_below_drewN | apply below_drew1) | exact HB.out)⟩
                        · rw [if_neg c17] at H
                          exact absurd H (by simp)
                      · rw [if_neg c16] at H
                        exact absurd H (by simp)
                    · rw [if_neg c13] at H
                      exact absurd H (by simp)
                  · rw [if_neg c11] at H
                    have c11b0 : ((bt pt_ x3_2) == 45) = false := beq_eq_false_iff_ne.mpr c11
                    have c11b1 : ((bt pt_ x3_2) != 45) = true := bne_iff_ne.mpr c11
                    have H' := Aside0.mk H
                    clear H
                    have p10 : 0 ≤ (x3_2 : Int) := of_decide_eq_true (by first | (with_reducible assumption) | assumption)
                    have q10 : x3_2 < (pt_.size : Int) := of_decide_eq_true (by first | (with_reducible assumption) | assumption)
                    have hx10 := bt_at pt_ x3_2
                    replace p10 := eq_true p10
                    replace q10 := eq_true q10
                    go_wp2
                    all_goals (try (exfalso; omega))
                    go_roundg k2
                    case measure => have := HJ1.out; have := HK2.out; omega
                    case rel => exact ⟨(wrap64 (x3_2 + 1)), (by first | rfl | (simp; done) | (simp [*]; done) | (congr 1; unfold wrap64; omega) | (simp; simp only [decide_eq_false_iff_not, decide_eq_true_eq] at *; congr 2; omega)), H', ⟨by have := HJ1.out; have := HK2.out; omega⟩, ⟨by repeat (first | (with_reducible first | exact HB.out | apply below_alloc | apply pw_below_drewN | apply below_drew1) | exact HB.out)⟩⟩
                · rw [if_neg c9] at H
                  exact absurd H (by simp)
              · rw [if_neg c8] at H
                have c8b0 : decide (x3_2 < (pt_.size : Int)) = false := decide_eq_false c8
                obtain rfl := Option.some.inj H
                go_wp2
                all_goals (try (exfalso; omega))
                all_goals go_ret
                all_goals exact ⟨by first | rfl | (simp [errW_none, errW_some] <;> rfl) | (simp [*, errW_none, errW_some] <;> rfl) | (simp [Ext.ne_nil_empty]; done), by repeat (first | (with_reducible first | exact HB.out | apply below_alloc | apply pw_below_drewN | apply below_drew1) | exact HB.out)⟩
        · rw [if_neg c7] at H
          exact absurd H (by simp)

end Go.Proofs.YtikhboebmmmopaaGreatDoor.Fun
