-- Written by xprint.py and prunelaw.py, programs of this work's, by means of the kit's print. Not trusted: Lean checks it.
import Derived.Test.YtikhboebmmmopaaGreatDoorFun
namespace Go.Proofs.YtikhboebmmmopaaGreatDoor.Fun
open Go.RowKit Go.Proofs.YtikhboebmmmopaaGreatDoorW.PrintWords Go.Proofs.YtikhboebmmmopaaGreatDoorW.PrintLast Go.Proofs.YtikhboebmmmopaaGreatDoorW.PrintMore
attribute [local go_sem] max2_int min2_int max_two min_two max_three min_three max_four min_four   -- for this text's walks alone
set_option linter.unusedVariables false
set_option linter.unusedSimpArgs false

/-! ### transeptlaw12_SafeTells: function 3 -/
def transeptlaw12_SafeTells.f (k : Nat) (a0 : ByteArray) (a1 : ByteArray) : Option (Bool) := (transeptlaw12_shown.f k).bind fun t209 => (if t209 = true then ((safe_Method.f k a0).bind fun t210 => ((transeptref12_Method.f k a0).bind fun t211 => (if (t210 == t211) = true then ((Ext.safe_Header.f a0 a1).bind fun t212 => ((transeptref12_Header.f k a0 a1).bind fun t213 => (if (t212 == t213) = true then ((safe_Never.f k a0).bind fun t214 => ((transeptref12_Never.f k a0).bind fun t215 => (if (t214 == t215) = true then ((safe_Reads.f k a0).bind fun t216 => ((transeptref12_Reads.f k a0).bind fun t217 => (if (t216 == t217) = true then ((safe_Hidden.f a0).bind fun t218 => ((transeptref12_Hidden.f k a0).bind fun t219 => (some (t218 == t219)))) else (some false)))) else (some false)))) else (some false)))) else (some false)))) else (some false))
theorem transeptlaw12_SafeTells.mono : ∀ a0 a1 k, LeO (transeptlaw12_SafeTells.f k a0 a1) (transeptlaw12_SafeTells.f (k + 1) a0 a1) := by
  intro a0 a1 k
  unfold transeptlaw12_SafeTells.f
  repeat' first
      | (with_reducible exact safe_Method.mono _ _)
      | (with_reducible exact safe_Never.mono _ _)
      | (with_reducible exact safe_Reads.mono _ _)
      | (with_reducible exact transeptlaw12_shown.mono _)
      | (with_reducible exact transeptref12_Header.mono _ _ _)
      | (with_reducible exact transeptref12_Hidden.mono _ _)
      | (with_reducible exact transeptref12_Method.mono _ _)
      | (with_reducible exact transeptref12_Never.mono _ _)
      | (with_reducible exact transeptref12_Reads.mono _ _)
      | (with_reducible exact LeO.refl _)
      | (with_reducible exact LeO.none _)
      | (with_reducible refine LeO.ite ?_ ?_)
      | (with_reducible refine LeO.bind ?_ (fun _ => ?_))
      | exact safe_Method.mono _ _
      | exact safe_Never.mono _ _
      | exact safe_Reads.mono _ _
      | exact transeptlaw12_shown.mono _
      | exact transeptref12_Header.mono _ _ _
      | exact transeptref12_Hidden.mono _ _
      | exact transeptref12_Method.mono _ _
      | exact transeptref12_Never.mono _ _
      | exact transeptref12_Reads.mono _ _
      | exact LeO.none _
      | refine LeO.ite ?_ ?_
      | refine LeO.bind ?_ (fun _ => ?_)
set_option maxHeartbeats 8000000 in
set_option maxRecDepth 100000 in
theorem transeptlaw12_SafeTells.calls (k : Nat) (a0 : ByteArray) (a1 : ByteArray) (_r : Bool) (w : World) (hT : Ext.Tabs w) (h : transeptlaw12_SafeTells.f k a0 a1 = some true) :
    Calls Tryz.prog 3 #[.string a0, .string a1] w fun e w' => e = .returned (.bool true) ∧ Below w.heap.size w w' := by
  have HB := Aside0.mk (Below.refl w.heap.size w)
  have HT := Aside0.mk hT
  clear hT
  have H : ((transeptlaw12_shown.f k).bind fun t209 => (if t209 = true then ((safe_Method.f k a0).bind fun t210 => ((transeptref12_Method.f k a0).bind fun t211 => (if (t210 == t211) = true then ((Ext.safe_Header.f a0 a1).bind fun t212 => ((transeptref12_Header.f k a0 a1).bind fun t213 => (if (t212 == t213) = true then ((safe_Never.f k a0).bind fun t214 => ((transeptref12_Never.f k a0).bind fun t215 => (if (t214 == t215) = true then ((safe_Reads.f k a0).bind fun t216 => ((transeptref12_Reads.f k a0).bind fun t217 => (if (t216 == t217) = true then ((safe_Hidden.f a0).bind fun t218 => ((transeptref12_Hidden.f k a0).bind fun t219 => (some (t218 == t219)))) else (some false)))) else (some false)))) else (some false)))) else (some false)))) else (some false))) = some true := h
  clear h
  replace H := Option.bind_eq_some_iff.mp H
  obtain ⟨t209, A30, H⟩ := H
  replace H : (if t209 = true then ((safe_Method.f k a0).bind fun t210 => ((transeptref12_Method.f k a0).bind fun t211 => (if (t210 == t211) = true then ((Ext.safe_Header.f a0 a1).bind fun t212 => ((transeptref12_Header.f k a0 a1).bind fun t213 => (if (t212 == t213) = true then ((safe_Never.f k a0).bind fun t214 => ((transeptref12_Never.f k a0).bind fun t215 => (if (t214 == t215) = true then ((safe_Reads.f k a0).bind fun t216 => ((transeptref12_Reads.f k a0).bind fun t217 => (if (t216 == t217) = true then ((safe_Hidden.f a0).bind fun t218 => ((transeptref12_Hidden.f k a0).bind fun t219 => (some (t218 == t219)))) else (some false)))) else (some false)))) else (some false)))) else (some false)))) else (some false)) = some true := H
  have A3 := Aside0.mk A30
  clear A30
  by_cases c4 : t209 = true
  · subst c4
    have H1 : ((safe_Method.f k a0).bind fun t210 => ((transeptref12_Method.f k a0).bind fun t211 => (if (t210 == t211) = true then ((Ext.safe_Header.f a0 a1).bind fun t212 => ((transeptref12_Header.f k a0 a1).bind fun t213 => (if (t212 == t213) = true then ((safe_Never.f k a0).bind fun t214 => ((transeptref12_Never.f k a0).bind fun t215 => (if (t214 == t215) = true then ((safe_Reads.f k a0).bind fun t216 => ((transeptref12_Reads.f k a0).bind fun t217 => (if (t216 == t217) = true then ((safe_Hidden.f a0).bind fun t218 => ((transeptref12_Hidden.f k a0).bind fun t219 => (some (t218 == t219)))) else (some false)))) else (some false)))) else (some false)))) else (some false)))) = some true := by rw [if_pos rfl] at H; exact H
    clear H
    have H := H1
    clear H1
    replace H := Option.bind_eq_some_iff.mp H
    obtain ⟨t210, A50, H⟩ := H
    replace H : ((transeptref12_Method.f k a0).bind fun t211 => (if (t210 == t211) = true then ((Ext.safe_Header.f a0 a1).bind fun t212 => ((transeptref12_Header.f k a0 a1).bind fun t213 => (if (t212 == t213) = true then ((safe_Never.f k a0).bind fun t214 => ((transeptref12_Never.f k a0).bind fun t215 => (if (t214 == t215) = true then ((safe_Reads.f k a0).bind fun t216 => ((transeptref12_Reads.f k a0).bind fun t217 => (if (t216 == t217) = true then ((safe_Hidden.f a0).bind fun t218 => ((transeptref12_Hidden.f k a0).bind fun t219 => (some (t218 == t219)))) else (some false)))) else (some false)))) else (some false)))) else (some false))) = some true := H
    have A5 := Aside0.mk A50
    clear A50
    replace H := Option.bind_eq_some_iff.mp H
    obtain ⟨t211, A60, H⟩ := H
    replace H : (if (t210 == t211) = true then ((Ext.safe_Header.f a0 a1).bind fun t212 => ((transeptref12_Header.f k a0 a1).bind fun t213 => (if (t212 == t213) = true then ((safe_Never.f k a0).bind fun t214 => ((transeptref12_Never.f k a0).bind fun t215 => (if (t214 == t215) = true then ((safe_Reads.f k a0).bind fun t216 => ((transeptref12_Reads.f k a0).bind fun t217 => (if (t216 == t217) = true then ((safe_Hidden.f a0).bind fun t218 => ((transeptref12_Hidden.f k a0).bind fun t219 => (some (t218 == t219)))) else (some false)))) else (some false)))) else (some false)))) else (some false)) = some true := H
    have A6 := Aside0.mk A60
    clear A60
    by_cases c7 : (t210 == t211) = true
    · rw [if_pos c7] at H
      have c7b0 : (t210 == t211) = true := c7
      (try (have c7b1 : decide (t210 = t211) = true := by simpa using c7))
      (try (have c7b2 : (t210 == t211) = true := by simpa using c7))
      clear c7
      replace H := Option.bind_eq_some_iff.mp H
      obtain ⟨t212, A80, H⟩ := H
      replace H : ((transeptref12_Header.f k a0 a1).bind fun t213 => (if (t212 == t213) = true then ((safe_Never.f k a0).bind fun t214 => ((transeptref12_Never.f k a0).bind fun t215 => (if (t214 == t215) = true then ((safe_Reads.f k a0).bind fun t216 => ((transeptref12_Reads.f k a0).bind fun t217 => (if (t216 == t217) = true then ((safe_Hidden.f a0).bind fun t218 => ((transeptref12_Hidden.f k a0).bind fun t219 => (some (t218 == t219)))) else (some false)))) else (some false)))) else (some false))) = some true := H
      have A8 := Aside0.mk A80
      clear A80
      replace H := Option.bind_eq_some_iff.mp H
      obtain ⟨t213, A90, H⟩ := H
      replace H : (if (t212 == t213) = true then ((safe_Never.f k a0).bind fun t214 => ((transeptref12_Never.f k a0).bind fun t215 => (if (t214 == t215) = true then ((safe_Reads.f k a0).bind fun t216 => ((transeptref12_Reads.f k a0).bind fun t217 => (if (t216 == t217) = true then ((safe_Hidden.f a0).bind fun t218 => ((transeptref12_Hidden.f k a0).bind fun t219 => (some (t218 == t219)))) else (some false)))) else (some false)))) else (some false)) = some true := H
      have A9 := Aside0.mk A90
      clear A90
      by_cases c10 : (t212 == t213) = true
      · rw [if_pos c10] at H
        have c10b0 : (t212 == t213) = true := c10
        (try (have c10b1 : decide (t212 = t213) = true := by simpa using c10))
        (try (have c10b2 : (t212 == t213) = true := by simpa using c10))
        clear c10
        replace H := Option.bind_eq_some_iff.mp H
        obtain ⟨t214, A110, H⟩ := H
        replace H : ((transeptref12_Never.f k a0).bind fun t215 => (if (t214 == t215) = true then ((safe_Reads.f k a0).bind fun t216 => ((transeptref12_Reads.f k a0).bind fun t217 => (if (t216 == t217) = true then ((safe_Hidden.f a0).bind fun t218 => ((transeptref12_Hidden.f k a0).bind fun t219 => (some (t218 == t219)))) else (some false)))) else (some false))) = some true := H
        have A11 := Aside0.mk A110
        clear A110
        replace H := Option.bind_eq_some_iff.mp H
        obtain ⟨t215, A120, H⟩ := H
        replace H : (if (t214 == t215) = true then ((safe_Reads.f k a0).bind fun t216 => ((transeptref12_Reads.f k a0).bind fun t217 => (if (t216 == t217) = true then ((safe_Hidden.f a0).bind fun t218 => ((transeptref12_Hidden.f k a0).bind fun t219 => (some (t218 == t219)))) else (some false)))) else (some false)) = some true := H
        have A12 := Aside0.mk A120
        clear A120
        by_cases c13 : (t214 == t215) = true
        · rw [if_pos c13] at H
          have c13b0 : (t214 == t215) = true := c13
          (try (have c13b1 : decide (t214 = t215) = true := by simpa using c13))
          (try (have c13b2 : (t214 == t215) = true := by simpa using c13))
          clear c13
          replace H := Option.bind_eq_some_iff.mp H
          obtain ⟨t216, A140, H⟩ := H
          replace H : ((transeptref12_Reads.f k a0).bind fun t217 => (if (t216 == t217) = true then ((safe_Hidden.f a0).bind fun t218 => ((transeptref12_Hidden.f k a0).bind fun t219 => (some (t218 == t219)))) else (some false))) = some true := H
          have A14 := Aside0.mk A140
          clear A140
          replace H := Option.bind_eq_some_iff.mp H
          obtain ⟨t217, A150, H⟩ := H
          replace H : (if (t216 == t217) = true then ((safe_Hidden.f a0).bind fun t218 => ((transeptref12_Hidden.f k a0).bind fun t219 => (some (t218 == t219)))) else (some false)) = some true := H
          have A15 := Aside0.mk A150
          clear A150
          by_cases c16 : (t216 == t217) = true
          · rw [if_pos c16] at H
            have c16b0 : (t216 == t217) = true := c16
            (try (have c16b1 : decide (t216 = t217) = true := by simpa using c16))
            (try (have c16b2 : (t216 == t217) = true := by simpa using c16))
            clear c16
            replace H := Option.bind_eq_some_iff.mp H
            obtain ⟨t218, A170, H⟩ := H
            replace H : ((transeptref12_Hidden.f k a0).bind fun t219 => (some (t218 == t219))) = some true := H
            have A17 := Aside0.mk A170
            clear A170
            replace H := Option.bind_eq_some_iff.mp H
            obtain ⟨t219, A180, H⟩ := H
            replace H : (some (t218 == t219)) = some true := H
            have A18 := Aside0.mk A180
            clear A180
            first | (revert H; simp only [Option.some.injEq, Bool.false_eq_true, false_implies]; done) | (have hv_ := Option.some.inj H)
            all_goals go_enter Tryz.func3, Tryz.ntmps3
            all_goals go_wp2_with (first | ((with_reducible refine gate_callee (f := 5) rfl ?_); refine goesL_ (some 6) rfl rfl Tryz.func5 (by kernel_rfl) rfl #[] rfl (by (try simp only [List.map_toArray, List.map_cons, List.map_nil]); first | done | rfl | (simp only [List.length_drop, List.length_take]; rfl)) ?_; (with_reducible refine (transeptlaw12_shown.calls k  true _ ?side1 A3.out).mono ?_); (case side1 => exact Ext.tabs_at HT.out (by repeat (first | (with_reducible first | exact HB.out | apply below_alloc | apply pw_below_drewN | apply below_drew1) | exact HB.out))); rintro e w19 ⟨rfl, hb⟩; refine ⟨_, rfl, ?_⟩; have n0_ := Aside0.mk (below_step (by repeat (first | (with_reducible first | exact HB.out | apply below_alloc | apply pw_below_drewN | apply below_drew1) | exact HB.out)) hb); clear HB; have HB := n0_; clear n0_; (try clear hb); (try clear hb2); (try clear hk); (try clear hi)) | (go_at_call 6; (with_reducible refine (safe_Method.calls k a0 t210 _ A5.out).mono ?_); rintro e w20 ⟨rfl, hb⟩; have n0_ := Aside0.mk (below_step (by repeat (first | (with_reducible first | exact HB.out | apply below_alloc | apply pw_below_drewN | apply below_drew1) | exact HB.out)) hb); clear HB; have HB := n0_; clear n0_; (try clear hb); (try clear hb2); (try clear hk); (try clear hi)) | (go_at_call 7; (with_reducible refine (transeptref12_Method.calls k a0 t211 _ A6.out).mono ?_); rintro e w21 ⟨rfl, hb⟩; have n0_ := Aside0.mk (below_step (by repeat (first | (with_reducible first | exact HB.out | apply below_alloc | apply pw_below_drewN | apply below_drew1) | exact HB.out)) hb); clear HB; have HB := n0_; clear n0_; (try clear hb); (try clear hb2); (try clear hk); (try clear hi)) | (go_at_call 8; (with_reducible refine (Ext.safe_Header.calls a0 a1 t212 _ ?side1 A8.out).mono ?_); (case side1 => exact Ext.tabs_at HT.out (by repeat (first | (with_reducible first | exact HB.out | apply below_alloc | apply pw_below_drewN | apply below_drew1) | exact HB.out))); rintro e w22 ⟨rfl, hb⟩; have n0_ := Aside0.mk (below_step (by repeat (first | (with_reducible first | exact HB.out | apply below_alloc | apply pw_below_drewN | apply below_drew1) | exact HB.out)) hb); clear HB; have HB := n0_; clear n0_; (try clear hb); (try clear hb2); (try clear hk); (try clear hi)) | (go_at_call 9; (with_reducible refine (transeptref12_Header.calls k a0 a1 t213 _ A9.out).mono ?_); rintro e w23 ⟨rfl, hb⟩; have n0_ := Aside0.mk (below_step (by repeat (first | (with_reducible first | exact HB.out | apply below_alloc | apply pw_below_drewN | apply below_drew1) | exact HB.out)) hb); clear HB; have HB := n0_; clear n0_; (try clear hb); (try clear hb2); (try clear hk); (try clear hi)) | (go_at_call 10; (with_reducible refine (safe_Never.calls k a0 t214 _ A11.out).mono ?_); rintro e w24 ⟨rfl, hb⟩; have n0_ := Aside0.mk (below_step (by repeat (first | (with_reducible first | exact HB.out | apply below_alloc | apply pw_below_drewN | apply below_drew1) | exact HB.out)) hb); clear HB; have HB := n0_; clear n0_; (try clear hb); (try clear hb2); (try clear hk); (try clear hi)) | (go_at_call 11; (with_reducible refine (transeptref12_Never.calls k a0 t215 _ A12.out).mono ?_); rintro e w25 ⟨rfl, hb⟩; have n0_ := Aside0.mk (below_step (by repeat (first | (with_reducible first | exact HB.out | apply below_alloc | apply pw_below_drewN | apply below_drew1) | exact HB.out)) hb); clear HB; have HB := n0_; clear n0_; (try clear hb); (try clear hb2); (try clear hk); (try clear hi)) | (go_at_call 12; (with_reducible refine (safe_Reads.calls k a0 t216 _ A14.out).mono ?_); rintro e w26 ⟨rfl, hb⟩; have n0_ := Aside0.mk (below_step (by repeat (first | (with_reducible first | exact HB.out | apply below_alloc | apply pw_below_drewN | apply below_drew1) | exact HB.out)) hb); clear HB; have HB := n0_; clear n0_; (try clear hb); (try clear hb2); (try clear hk); (try clear hi)) | (go_at_call 13; (with_reducible refine (transeptref12_Reads.calls k a0 t217 _ A15.out).mono ?_); rintro e w27 ⟨rfl, hb⟩; have n0_ := Aside0.mk (below_step (by repeat (first | (with_reducible first | exact HB.out | apply below_alloc | apply pw_below_drewN | apply below_drew1) | exact HB.out)) hb); clear HB; have HB := n0_; clear n0_; (try clear hb); (try clear hb2); (try clear hk); (try clear hi)) | (go_at_call 14; (with_reducible refine (safe_Hidden.calls a0 t218 _ A17.out).mono ?_); rintro e w28 ⟨rfl, hb⟩; have n0_ := Aside0.mk (below_step (by repeat (first | (with_reducible first | exact HB.out | apply below_alloc | apply pw_below_drewN | apply below_drew1) | exact HB.out)) hb); clear HB; have HB := n0_; clear n0_; (try clear hb); (try clear hb2); (try clear hk); (try clear hi)) | (go_at_call 15; (with_reducible refine (transeptref12_Hidden.calls k a0 t219 _ A18.out).mono ?_); rintro e w29 ⟨rfl, hb⟩; have n0_ := Aside0.mk (below_step (by repeat (first | (with_reducible first | exact HB.out | apply below_alloc | apply pw_below_drewN | apply below_drew1) | exact HB.out)) hb); clear HB; have HB := n0_; clear n0_; (try clear hb); (try clear hb2); (try clear hk); (try clear hi)))
            all_goals (try (exfalso; omega))
            all_goals go_ret
            all_goals exact ⟨by first | rfl | (simp [errW_none, errW_some] <;> rfl) | (simp [*, errW_none, errW_some] <;> rfl) | (simp [Ext.ne_nil_empty]; done) | (exfalso; simp_all; done), by repeat (first | (with_reducible first | exact HB.out | apply below_alloc | apply pw_below_drewN | apply below_drew1) | exact HB.out)⟩
          · rw [if_neg c16] at H
            have c16b0 : (t216 == t217) = false := by simpa using c16
            (try (have c16b1 : decide (t216 = t217) = false := by simpa using c16))
            (try (have c16b2 : (t216 == t217) = false := by simpa using c16))
            (try (have c16b3 : ¬ (t216 = t217) := by simpa using c16))
            clear c16
            exact absurd (Option.some.inj H) (by decide)
        · rw [if_neg c13] at H
          have c13b0 : (t214 == t215) = false := by simpa using c13
          (try (have c13b1 : decide (t214 = t215) = false := by simpa using c13))
          (try (have c13b2 : (t214 == t215) = false := by simpa using c13))
          (try (have c13b3 : ¬ (t214 = t215) := by simpa using c13))
          clear c13
          exact absurd (Option.some.inj H) (by decide)
      · rw [if_neg c10] at H
        have c10b0 : (t212 == t213) = false := by simpa using c10
        (try (have c10b1 : decide (t212 = t213) = false := by simpa using c10))
        (try (have c10b2 : (t212 == t213) = false := by simpa using c10))
        (try (have c10b3 : ¬ (t212 = t213) := by simpa using c10))
        clear c10
        exact absurd (Option.some.inj H) (by decide)
    · rw [if_neg c7] at H
      have c7b0 : (t210 == t211) = false := by simpa using c7
      (try (have c7b1 : decide (t210 = t211) = false := by simpa using c7))
      (try (have c7b2 : (t210 == t211) = false := by simpa using c7))
      (try (have c7b3 : ¬ (t210 = t211) := by simpa using c7))
      clear c7
      exact absurd (Option.some.inj H) (by decide)
  · replace c4 := Bool.eq_false_iff.mpr c4
    subst c4
    have H1 : (some false) = some true := by rw [if_neg (show ¬ (false = true) by decide)] at H; exact H
    clear H
    have H := H1
    clear H1
    exact absurd (Option.some.inj H) (by decide)
end Go.Proofs.YtikhboebmmmopaaGreatDoor.Fun
