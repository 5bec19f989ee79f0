-- Written by xprint.py and prunelaw.py, programs of this work's, by means of the kit's print. Not trusted: Lean checks it.
import Derived.Test.YtikhboebmmmopaaDoorFun
namespace Go.Proofs.YtikhboebmmmopaaDoor.Fun
open Go.RowKit Go.Proofs.YtikhboebmmmopaaDoorW.PrintWords Go.Proofs.YtikhboebmmmopaaDoorW.PrintLast Go.Proofs.YtikhboebmmmopaaDoorW.PrintMore
attribute [local go_sem] max2_int min2_int max_two min_two max_three min_three max_four min_four   -- for this text's walks alone
set_option linter.unusedVariables false
set_option linter.unusedSimpArgs false

/-! ### transeptlaw12_SafeLetters: function 3 -/
def transeptlaw12_SafeLetters.f (k : Nat) (a0 : ByteArray) (a1 : ByteArray) : Option (Bool) := (transeptlaw12_shown.f k).bind fun t145 => ((Ext.token_Lower.f a0).bind fun t146 => (if t145 = true then ((safe_Method.f k a0).bind fun t147 => ((safe_Method.f k t146).bind fun t148 => (if (t147 == t148) = true then ((Ext.safe_Header.f a0 a1).bind fun t149 => ((Ext.safe_Header.f t146 a1).bind fun t150 => (if (t149 == t150) = true then ((safe_Never.f k a0).bind fun t151 => ((safe_Never.f k t146).bind fun t152 => (if (t151 == t152) = true then ((safe_Reads.f k a0).bind fun t153 => ((safe_Reads.f k t146).bind fun t154 => (if (t153 == t154) = true then ((safe_Hidden.f a0).bind fun t155 => ((safe_Hidden.f t146).bind fun t156 => (if (t155 == t156) = true then ((Ext.safe_Header.f a0 a1).bind fun t157 => (if t157 = true then ((safe_Never.f k a0).bind fun t158 => (some (!t158))) else (some true))) else (some false)))) else (some false)))) else (some false)))) else (some false)))) else (some false)))) else (some false)))
theorem transeptlaw12_SafeLetters.mono : ∀ a0 a1 k, LeO (transeptlaw12_SafeLetters.f k a0 a1) (transeptlaw12_SafeLetters.f (k + 1) a0 a1) := by
  intro a0 a1 k
  unfold transeptlaw12_SafeLetters.f
  repeat' first
      | (with_reducible exact safe_Method.mono _ _)
      | (with_reducible exact safe_Never.mono _ _)
      | (with_reducible exact safe_Reads.mono _ _)
      | (with_reducible exact transeptlaw12_shown.mono _)
      | (with_reducible exact LeO.refl _)
      | (with_reducible exact LeO.none _)
      | (with_reducible refine LeO.ite ?_ ?_)
      | (with_reducible refine LeO.bind ?_ (fun _ => ?_))
      | exact safe_Method.mono _ _
      | exact safe_Never.mono _ _
      | exact safe_Reads.mono _ _
      | exact transeptlaw12_shown.mono _
      | exact LeO.none _
      | refine LeO.ite ?_ ?_
      | refine LeO.bind ?_ (fun _ => ?_)
set_option maxHeartbeats 8000000 in
set_option maxRecDepth 100000 in
theorem transeptlaw12_SafeLetters.calls (k : Nat) (a0 : ByteArray) (a1 : ByteArray) (_r : Bool) (w : World) (hT : Ext.Tabs w) (h : transeptlaw12_SafeLetters.f k a0 a1 = some true) :
    Calls Tryd.prog 3 #[.string a0, .string a1] w fun e w' => e = .returned (.bool true) ∧ Below w.heap.size w w' := by
  have HB := Aside0.mk (Below.refl w.heap.size w)
  have HT := Aside0.mk hT
  clear hT
  have H : ((transeptlaw12_shown.f k).bind fun t145 => ((Ext.token_Lower.f a0).bind fun t146 => (if t145 = true then ((safe_Method.f k a0).bind fun t147 => ((safe_Method.f k t146).bind fun t148 => (if (t147 == t148) = true then ((Ext.safe_Header.f a0 a1).bind fun t149 => ((Ext.safe_Header.f t146 a1).bind fun t150 => (if (t149 == t150) = true then ((safe_Never.f k a0).bind fun t151 => ((safe_Never.f k t146).bind fun t152 => (if (t151 == t152) = true then ((safe_Reads.f k a0).bind fun t153 => ((safe_Reads.f k t146).bind fun t154 => (if (t153 == t154) = true then ((safe_Hidden.f a0).bind fun t155 => ((safe_Hidden.f t146).bind fun t156 => (if (t155 == t156) = true then ((Ext.safe_Header.f a0 a1).bind fun t157 => (if t157 = true then ((safe_Never.f k a0).bind fun t158 => (some (!t158))) else (some true))) else (some false)))) else (some false)))) else (some false)))) else (some false)))) else (some false)))) else (some false)))) = some true := h
  clear h
  replace H := Option.bind_eq_some_iff.mp H
  obtain ⟨t145, A30, H⟩ := H
  replace H : ((Ext.token_Lower.f a0).bind fun t146 => (if t145 = true then ((safe_Method.f k a0).bind fun t147 => ((safe_Method.f k t146).bind fun t148 => (if (t147 == t148) = true then ((Ext.safe_Header.f a0 a1).bind fun t149 => ((Ext.safe_Header.f t146 a1).bind fun t150 => (if (t149 == t150) = true then ((safe_Never.f k a0).bind fun t151 => ((safe_Never.f k t146).bind fun t152 => (if (t151 == t152) = true then ((safe_Reads.f k a0).bind fun t153 => ((safe_Reads.f k t146).bind fun t154 => (if (t153 == t154) = true then ((safe_Hidden.f a0).bind fun t155 => ((safe_Hidden.f t146).bind fun t156 => (if (t155 == t156) = true then ((Ext.safe_Header.f a0 a1).bind fun t157 => (if t157 = true then ((safe_Never.f k a0).bind fun t158 => (some (!t158))) else (some true))) else (some false)))) else (some false)))) else (some false)))) else (some false)))) else (some false)))) else (some false))) = some true := H
  have A3 := Aside0.mk A30
  clear A30
  replace H := Option.bind_eq_some_iff.mp H
  obtain ⟨t146, A40, H⟩ := H
  replace H : (if t145 = true then ((safe_Method.f k a0).bind fun t147 => ((safe_Method.f k t146).bind fun t148 => (if (t147 == t148) = true then ((Ext.safe_Header.f a0 a1).bind fun t149 => ((Ext.safe_Header.f t146 a1).bind fun t150 => (if (t149 == t150) = true then ((safe_Never.f k a0).bind fun t151 => ((safe_Never.f k t146).bind fun t152 => (if (t151 == t152) = true then ((safe_Reads.f k a0).bind fun t153 => ((safe_Reads.f k t146).bind fun t154 => (if (t153 == t154) = true then ((safe_Hidden.f a0).bind fun t155 => ((safe_Hidden.f t146).bind fun t156 => (if (t155 == t156) = true then ((Ext.safe_Header.f a0 a1).bind fun t157 => (if t157 = true then ((safe_Never.f k a0).bind fun t158 => (some (!t158))) else (some true))) else (some false)))) else (some false)))) else (some false)))) else (some false)))) else (some false)))) else (some false)) = some true := H
  have A4 := Aside0.mk A40
  clear A40
  by_cases c5 : t145 = true
  · subst c5
    have H1 : ((safe_Method.f k a0).bind fun t147 => ((safe_Method.f k t146).bind fun t148 => (if (t147 == t148) = true then ((Ext.safe_Header.f a0 a1).bind fun t149 => ((Ext.safe_Header.f t146 a1).bind fun t150 => (if (t149 == t150) = true then ((safe_Never.f k a0).bind fun t151 => ((safe_Never.f k t146).bind fun t152 => (if (t151 == t152) = true then ((safe_Reads.f k a0).bind fun t153 => ((safe_Reads.f k t146).bind fun t154 => (if (t153 == t154) = true then ((safe_Hidden.f a0).bind fun t155 => ((safe_Hidden.f t146).bind fun t156 => (if (t155 == t156) = true then ((Ext.safe_Header.f a0 a1).bind fun t157 => (if t157 = true then ((safe_Never.f k a0).bind fun t158 => (some (!t158))) else (some true))) else (some false)))) else (some false)))) else (some false)))) else (some false)))) else (some false)))) = some true := by rw [if_pos rfl] at H; exact H
    clear H
    have H := H1
    clear H1
    replace H := Option.bind_eq_some_iff.mp H
    obtain ⟨t147, A60, H⟩ := H
    replace H : ((safe_Method.f k t146).bind fun t148 => (if (t147 == t148) = true then ((Ext.safe_Header.f a0 a1).bind fun t149 => ((Ext.safe_Header.f t146 a1).bind fun t150 => (if (t149 == t150) = true then ((safe_Never.f k a0).bind fun t151 => ((safe_Never.f k t146).bind fun t152 => (if (t151 == t152) = true then ((safe_Reads.f k a0).bind fun t153 => ((safe_Reads.f k t146).bind fun t154 => (if (t153 == t154) = true then ((safe_Hidden.f a0).bind fun t155 => ((safe_Hidden.f t146).bind fun t156 => (if (t155 == t156) = true then ((Ext.safe_Header.f a0 a1).bind fun t157 => (if t157 = true then ((safe_Never.f k a0).bind fun t158 => (some (!t158))) else (some true))) else (some false)))) else (some false)))) else (some false)))) else (some false)))) else (some false))) = some true := H
    have A6 := Aside0.mk A60
    clear A60
    replace H := Option.bind_eq_some_iff.mp H
    obtain ⟨t148, A70, H⟩ := H
    replace H : (if (t147 == t148) = true then ((Ext.safe_Header.f a0 a1).bind fun t149 => ((Ext.safe_Header.f t146 a1).bind fun t150 => (if (t149 == t150) = true then ((safe_Never.f k a0).bind fun t151 => ((safe_Never.f k t146).bind fun t152 => (if (t151 == t152) = true then ((safe_Reads.f k a0).bind fun t153 => ((safe_Reads.f k t146).bind fun t154 => (if (t153 == t154) = true then ((safe_Hidden.f a0).bind fun t155 => ((safe_Hidden.f t146).bind fun t156 => (if (t155 == t156) = true then ((Ext.safe_Header.f a0 a1).bind fun t157 => (if t157 = true then ((safe_Never.f k a0).bind fun t158 => (some (!t158))) else (some true))) else (some false)))) else (some false)))) else (some false)))) else (some false)))) else (some false)) = some true := H
    have A7 := Aside0.mk A70
    clear A70
    by_cases c8 : (t147 == t148) = true
    · rw [if_pos c8] at H
      have c8b0 : (t147 == t148) = true := c8
      (try (have c8b1 : decide (t147 = t148) = true := by simpa using c8))
      (try (have c8b2 : (t147 == t148) = true := by simpa using c8))
      clear c8
      replace H := Option.bind_eq_some_iff.mp H
      obtain ⟨t149, A90, H⟩ := H
      replace H : ((Ext.safe_Header.f t146 a1).bind fun t150 => (if (t149 == t150) = true then ((safe_Never.f k a0).bind fun t151 => ((safe_Never.f k t146).bind fun t152 => (if (t151 == t152) = true then ((safe_Reads.f k a0).bind fun t153 => ((safe_Reads.f k t146).bind fun t154 => (if (t153 == t154) = true then ((safe_Hidden.f a0).bind fun t155 => ((safe_Hidden.f t146).bind fun t156 => (if (t155 == t156) = true then ((Ext.safe_Header.f a0 a1).bind fun t157 => (if t157 = true then ((safe_Never.f k a0).bind fun t158 => (some (!t158))) else (some true))) else (some false)))) else (some false)))) else (some false)))) else (some false))) = some true := H
      have A9 := Aside0.mk A90
      clear A90
      replace H := Option.bind_eq_some_iff.mp H
      obtain ⟨t150, A100, H⟩ := H
      replace H : (if (t149 == t150) = true then ((safe_Never.f k a0).bind fun t151 => ((safe_Never.f k t146).bind fun t152 => (if (t151 == t152) = true then ((safe_Reads.f k a0).bind fun t153 => ((safe_Reads.f k t146).bind fun t154 => (if (t153 == t154) = true then ((safe_Hidden.f a0).bind fun t155 => ((safe_Hidden.f t146).bind fun t156 => (if (t155 == t156) = true then ((Ext.safe_Header.f a0 a1).bind fun t157 => (if t157 = true then ((safe_Never.f k a0).bind fun t158 => (some (!t158))) else (some true))) else (some false)))) else (some false)))) else (some false)))) else (some false)) = some true := H
      have A10 := Aside0.mk A100
      clear A100
      by_cases c11 : (t149 == t150) = true
      · rw [if_pos c11] at H
        have c11b0 : (t149 == t150) = true := c11
        (try (have c11b1 : decide (t149 = t150) = true := by simpa using c11))
        (try (have c11b2 : (t149 == t150) = true := by simpa using c11))
        clear c11
        replace H := Option.bind_eq_some_iff.mp H
        obtain ⟨t151, A120, H⟩ := H
        replace H : ((safe_Never.f k t146).bind fun t152 => (if (t151 == t152) = true then ((safe_Reads.f k a0).bind fun t153 => ((safe_Reads.f k t146).bind fun t154 => (if (t153 == t154) = true then ((safe_Hidden.f a0).bind fun t155 => ((safe_Hidden.f t146).bind fun t156 => (if (t155 == t156) = true then ((Ext.safe_Header.f a0 a1).bind fun t157 => (if t157 = true then ((safe_Never.f k a0).bind fun t158 => (some (!t158))) else (some true))) else (some false)))) else (some false)))) else (some false))) = some true := H
        have A12 := Aside0.mk A120
        clear A120
        replace H := Option.bind_eq_some_iff.mp H
        obtain ⟨t152, A130, H⟩ := H
        replace H : (if (t151 == t152) = true then ((safe_Reads.f k a0).bind fun t153 => ((safe_Reads.f k t146).bind fun t154 => (if (t153 == t154) = true then ((safe_Hidden.f a0).bind fun t155 => ((safe_Hidden.f t146).bind fun t156 => (if (t155 == t156) = true then ((Ext.safe_Header.f a0 a1).bind fun t157 => (if t157 = true then ((safe_Never.f k a0).bind fun t158 => (some (!t158))) else (some true))) else (some false)))) else (some false)))) else (some false)) = some true := H
        have A13 := Aside0.mk A130
        clear A130
        by_cases c14 : (t151 == t152) = true
        · rw [if_pos c14] at H
          have c14b0 : (t151 == t152) = true := c14
          (try (have c14b1 : decide (t151 = t152) = true := by simpa using c14))
          (try (have c14b2 : (t151 == t152) = true := by simpa using c14))
          clear c14
          replace H := Option.bind_eq_some_iff.mp H
          obtain ⟨t153, A150, H⟩ := H
          replace H : ((safe_Reads.f k t146).bind fun t154 => (if (t153 == t154) = true then ((safe_Hidden.f a0).bind fun t155 => ((safe_Hidden.f t146).bind fun t156 => (if (t155 == t156) = true then ((Ext.safe_Header.f a0 a1).bind fun t157 => (if t157 = true then ((safe_Never.f k a0).bind fun t158 => (some (!t158))) else (some true))) else (some false)))) else (some false))) = some true := H
          have A15 := Aside0.mk A150
          clear A150
          replace H := Option.bind_eq_some_iff.mp H
          obtain ⟨t154, A160, H⟩ := H
          replace H : (if (t153 == t154) = true then ((safe_Hidden.f a0).bind fun t155 => ((safe_Hidden.f t146).bind fun t156 => (if (t155 == t156) = true then ((Ext.safe_Header.f a0 a1).bind fun t157 => (if t157 = true then ((safe_Never.f k a0).bind fun t158 => (some (!t158))) else (some true))) else (some false)))) else (some false)) = some true := H
          have A16 := Aside0.mk A160
          clear A160
          by_cases c17 : (t153 == t154) = true
          · rw [if_pos c17] at H
            have c17b0 : (t153 == t154) = true := c17
            (try (have c17b1 : decide (t153 = t154) = true := by simpa using c17))
            (try (have c17b2 : (t153 == t154) = true := by simpa using c17))
            clear c17
            replace H := Option.bind_eq_some_iff.mp H
            obtain ⟨t155, A180, H⟩ := H
            replace H : ((safe_Hidden.f t146).bind fun t156 => (if (t155 == t156) = true then ((Ext.safe_Header.f a0 a1).bind fun t157 => (if t157 = true then ((safe_Never.f k a0).bind fun t158 => (some (!t158))) else (some true))) else (some false))) = some true := H
            have A18 := Aside0.mk A180
            clear A180
            replace H := Option.bind_eq_some_iff.mp H
            obtain ⟨t156, A190, H⟩ := H
            replace H : (if (t155 == t156) = true then ((Ext.safe_Header.f a0 a1).bind fun t157 => (if t157 = true then ((safe_Never.f k a0).bind fun t158 => (some (!t158))) else (some true))) else (some false)) = some true := H
            have A19 := Aside0.mk A190
            clear A190
            by_cases c20 : (t155 == t156) = true
            · rw [if_pos c20] at H
              have c20b0 : (t155 == t156) = true := c20
              (try (have c20b1 : decide (t155 = t156) = true := by simpa using c20))
              (try (have c20b2 : (t155 == t156) = true := by simpa using c20))
              clear c20
              replace H := Option.bind_eq_some_iff.mp H
              obtain ⟨t157, A210, H⟩ := H
              obtain rfl := Option.some.inj (A9.out.symm.trans A210)
              replace H : (if t149 = true then ((safe_Never.f k a0).bind fun t158 => (some (!t158))) else (some true)) = some true := H
              have A21 := Aside0.mk A210
              clear A210
              by_cases c22 : t149 = true
              · subst c22
                have H1 : ((safe_Never.f k a0).bind fun t158 => (some (!t158))) = some true := by rw [if_pos rfl] at H; exact H
                clear H
                have H := H1
                clear H1
                replace H := Option.bind_eq_some_iff.mp H
                obtain ⟨t158, A230, H⟩ := H
                obtain rfl := Option.some.inj (A12.out.symm.trans A230)
                replace H : (some (!t151)) = some true := H
                have A23 := Aside0.mk A230
                clear A230
                first | (revert H; simp only [Option.some.injEq, Bool.false_eq_true, false_implies]; done) | (have hv_ := Option.some.inj H)
                all_goals go_enter Tryd.func3, Tryd.ntmps3
                all_goals go_wp2_with (first | ((with_reducible refine gate_callee (f := 9) rfl ?_); refine goesL_ (some 7) rfl rfl Tryd.func9 (by kernel_rfl) rfl #[] rfl (by (try simp only [List.map_toArray, List.map_cons, List.map_nil]); first | done | rfl | (simp only [List.length_drop, List.length_take]; rfl)) ?_; (with_reducible refine (transeptlaw12_shown.calls k  true _ ?side1 A3.out).mono ?_); (case side1 => exact Ext.tabs_at HT.out (by repeat (first | (with_reducible first | exact HB.out | apply below_alloc | apply pw_below_drewN | apply below_drew1) | exact HB.out))); rintro e w24 ⟨rfl, hb⟩; refine ⟨_, rfl, ?_⟩; have n0_ := Aside0.mk (below_step (by repeat (first | (with_reducible first | exact HB.out | apply below_alloc | apply pw_below_drewN | apply below_drew1) | exact HB.out)) hb); clear HB; have HB := n0_; clear n0_; (try clear hb); (try clear hb2); (try clear hk); (try clear hi)) | ((with_reducible refine gate_callee (f := 10) rfl ?_); refine goesL_ (some 9) rfl rfl Tryd.func10 (by kernel_rfl) rfl #[.string a0] rfl (by (try simp only [List.map_toArray, List.map_cons, List.map_nil]); first | done | rfl | (simp only [List.length_drop, List.length_take]; rfl)) ?_; (with_reducible refine (Ext.token_Lower.calls a0 t146 _ A4.out).mono ?_); rintro e w25 ⟨rfl, hb⟩; refine ⟨_, rfl, ?_⟩; have n0_ := Aside0.mk (below_step (by repeat (first | (with_reducible first | exact HB.out | apply below_alloc | apply pw_below_drewN | apply below_drew1) | exact HB.out)) hb); clear HB; have HB := n0_; clear n0_; (try clear hb); (try clear hb2); (try clear hk); (try clear hi)) | (go_at_call 11; (with_reducible refine (safe_Method.calls k a0 t147 _ A6.out).mono ?_); rintro e w26 ⟨rfl, hb⟩; have n0_ := Aside0.mk (below_step (by repeat (first | (with_reducible first | exact HB.out | apply below_alloc | apply pw_below_drewN | apply below_drew1) | exact HB.out)) hb); clear HB; have HB := n0_; clear n0_; (try clear hb); (try clear hb2); (try clear hk); (try clear hi)) | (go_at_call 11; (with_reducible refine (safe_Method.calls k t146 t148 _ A7.out).mono ?_); rintro e w27 ⟨rfl, hb⟩; have n0_ := Aside0.mk (below_step (by repeat (first | (with_reducible first | exact HB.out | apply below_alloc | apply pw_below_drewN | apply below_drew1) | exact HB.out)) hb); clear HB; have HB := n0_; clear n0_; (try clear hb); (try clear hb2); (try clear hk); (try clear hi)) | (go_at_call 12; (with_reducible refine (Ext.safe_Header.calls a0 a1 t149 _ ?side1 A9.out).mono ?_); (case side1 => exact Ext.tabs_at HT.out (by repeat (first | (with_reducible first | exact HB.out | apply below_alloc | apply pw_below_drewN | apply below_drew1) | exact HB.out))); rintro e w28 ⟨rfl, hb⟩; have n0_ := Aside0.mk (below_step (by repeat (first | (with_reducible first | exact HB.out | apply below_alloc | apply pw_below_drewN | apply below_drew1) | exact HB.out)) hb); clear HB; have HB := n0_; clear n0_; (try clear hb); (try clear hb2); (try clear hk); (try clear hi)) | (go_at_call 12; (with_reducible refine (Ext.safe_Header.calls t146 a1 t150 _ ?side1 A10.out).mono ?_); (case side1 => exact Ext.tabs_at HT.out (by repeat (first | (with_reducible first | exact HB.out | apply below_alloc | apply pw_below_drewN | apply below_drew1) | exact HB.out))); rintro e w29 ⟨rfl, hb⟩; have n0_ := Aside0.mk (below_step (by repeat (first | (with_reducible first | exact HB.out | apply below_alloc | apply pw_below_drewN | apply below_drew1) | exact HB.out)) hb); clear HB; have HB := n0_; clear n0_; (try clear hb); (try clear hb2); (try clear hk); (try clear hi)) | (go_at_call 13; (with_reducible refine (safe_Never.calls k a0 t151 _ A12.out).mono ?_); rintro e w30 ⟨rfl, hb⟩; have n0_ := Aside0.mk (below_step (by repeat (first | (with_reducible first | exact HB.out | apply below_alloc | apply pw_below_drewN | apply below_drew1) | exact HB.out)) hb); clear HB; have HB := n0_; clear n0_; (try clear hb); (try clear hb2); (try clear hk); (try clear hi)) | (go_at_call 13; (with_reducible refine (safe_Never.calls k t146 t152 _ A13.out).mono ?_); rintro e w31 ⟨rfl, hb⟩; have n0_ := Aside0.mk (below_step (by repeat (first | (with_reducible first | exact HB.out | apply below_alloc | apply pw_below_drewN | apply below_drew1) | exact HB.out)) hb); clear HB; have HB := n0_; clear n0_; (try clear hb); (try clear hb2); (try clear hk); (try clear hi)) | (go_at_call 14; (with_reducible refine (safe_Reads.calls k a0 t153 _ A15.out).mono ?_); rintro e w32 ⟨rfl, hb⟩; have n0_ := Aside0.mk (below_step (by repeat (first | (with_reducible first | exact HB.out | apply below_alloc | apply pw_below_drewN | apply below_drew1) | exact HB.out)) hb); clear HB; have HB := n0_; clear n0_; (try clear hb); (try clear hb2); (try clear hk); (try clear hi)) | (go_at_call 14; (with_reducible refine (safe_Reads.calls k t146 t154 _ A16.out).mono ?_); rintro e w33 ⟨rfl, hb⟩; have n0_ := Aside0.mk (below_step (by repeat (first | (with_reducible first | exact HB.out | apply below_alloc | apply pw_below_drewN | apply below_drew1) | exact HB.out)) hb); clear HB; have HB := n0_; clear n0_; (try clear hb); (try clear hb2); (try clear hk); (try clear hi)) | (go_at_call 15; (with_reducible refine (safe_Hidden.calls a0 t155 _ A18.out).mono ?_); rintro e w34 ⟨rfl, hb⟩; have n0_ := Aside0.mk (below_step (by repeat (first | (with_reducible first | exact HB.out | apply below_alloc | apply pw_below_drewN | apply below_drew1) | exact HB.out)) hb); clear HB; have HB := n0_; clear n0_; (try clear hb); (try clear hb2); (try clear hk); (try clear hi)) | (go_at_call 15; (with_reducible refine (safe_Hidden.calls t146 t156 _ A19.out).mono ?_); rintro e w35 ⟨rfl, hb⟩; have n0_ := Aside0.mk (below_step (by repeat (first | (with_reducible first | exact HB.out | apply below_alloc | apply pw_below_drewN | apply below_drew1) | exact HB.out)) hb); clear HB; have HB := n0_; clear n0_; (try clear hb); (try clear hb2); (try clear hk); (try clear hi)) | (go_at_call 12; (with_reducible refine (Ext.safe_Header.calls a0 a1 true _ ?side1 A21.out).mono ?_); (case side1 => exact Ext.tabs_at HT.out (by repeat (first | (with_reducible first | exact HB.out | apply below_alloc | apply pw_below_drewN | apply below_drew1) | exact HB.out))); rintro e w36 ⟨rfl, hb⟩; have n0_ := Aside0.mk (below_step (by repeat (first | (with_reducible first | exact HB.out | apply below_alloc | apply pw_below_drewN | apply below_drew1) | exact HB.out)) hb); clear HB; have HB := n0_; clear n0_; (try clear hb); (try clear hb2); (try clear hk); (try clear hi)) | (go_at_call 13; (with_reducible refine (safe_Never.calls k a0 t151 _ A23.out).mono ?_); rintro e w37 ⟨rfl, hb⟩; have n0_ := Aside0.mk (below_step (by repeat (first | (with_reducible first | exact HB.out | apply below_alloc | apply pw_below_drewN | apply below_drew1) | exact HB.out)) hb); clear HB; have HB := n0_; clear n0_; (try clear hb); (try clear hb2); (try clear hk); (try clear hi)))
                all_goals (try (exfalso; omega))
                all_goals go_ret
                all_goals exact ⟨by first | rfl | (simp [errW_none, errW_some] <;> rfl) | (simp [*, errW_none, errW_some] <;> rfl) | (simp [Ext.ne_nil_empty]; done) | (exfalso; simp_all; done), by repeat (first | (with_reducible first | exact HB.out | apply below_alloc | apply pw_below_drewN | apply below_drew1) | exact HB.out)⟩
              · replace c22 := Bool.eq_false_iff.mpr c22
                subst c22
                have H1 : (some true) = some true := rfl
                clear H
                have H := H1
                clear H1
                first | (revert H; simp only [Option.some.injEq, Bool.false_eq_true, false_implies]; done) | (have hv_ := Option.some.inj H)
                all_goals go_enter Tryd.func3, Tryd.ntmps3
                all_goals go_wp2_with (first | ((with_reducible refine gate_callee (f := 9) rfl ?_); refine goesL_ (some 7) rfl rfl Tryd.func9 (by kernel_rfl) rfl #[] rfl (by (try simp only [List.map_toArray, List.map_cons, List.map_nil]); first | done | rfl | (simp only [List.length_drop, List.length_take]; rfl)) ?_; (with_reducible refine (transeptlaw12_shown.calls k  true _ ?side1 A3.out).mono ?_); (case side1 => exact Ext.tabs_at HT.out (by repeat (first | (with_reducible first | exact HB.out | apply below_alloc | apply pw_below_drewN | apply below_drew1) | exact HB.out))); rintro e w38 ⟨rfl, hb⟩; refine ⟨_, rfl, ?_⟩; have n0_ := Aside0.mk (below_step (by repeat (first | (with_reducible first | exact HB.out | apply below_alloc | apply pw_below_drewN | apply below_drew1) | exact HB.out)) hb); clear HB; have HB := n0_; clear n0_; (try clear hb); (try clear hb2); (try clear hk); (try clear hi)) | ((with_reducible refine gate_callee (f := 10) rfl ?_); refine goesL_ (some 9) rfl rfl Tryd.func10 (by kernel_rfl) rfl #[.string a0] rfl (by (try simp only [List.map_toArray, List.map_cons, List.map_nil]); first | done | rfl | (simp only [List.length_drop, List.length_take]; rfl)) ?_; (with_reducible refine (Ext.token_Lower.calls a0 t146 _ A4.out).mono ?_); rintro e w39 ⟨rfl, hb⟩; refine ⟨_, rfl, ?_⟩; have n0_ := Aside0.mk (below_step (by repeat (first | (with_reducible first | exact HB.out | apply below_alloc | apply pw_below_drewN | apply below_drew1) | exact HB.out)) hb); clear HB; have HB := n0_; clear n0_; (try clear hb); (try clear hb2); (try clear hk); (try clear hi)) | (go_at_call 11; (with_reducible refine (safe_Method.calls k a0 t147 _ A6.out).mono ?_); rintro e w40 ⟨rfl, hb⟩; have n0_ := Aside0.mk (below_step (by repeat (first | (with_reducible first | exact HB.out | apply below_alloc | apply pw_below_drewN | apply below_drew1) | exact HB.out)) hb); clear HB; have HB := n0_; clear n0_; (try clear hb); (try clear hb2); (try clear hk); (try clear hi)) | (go_at_call 11; (with_reducible refine (safe_Method.calls k t146 t148 _ A7.out).mono ?_); rintro e w41 ⟨rfl, hb⟩; have n0_ := Aside0.mk (below_step (by repeat (first | (with_reducible first | exact HB.out | apply below_alloc | apply pw_below_drewN | apply below_drew1) | exact HB.out)) hb); clear HB; have HB := n0_; clear n0_; (try clear hb); (try clear hb2); (try clear hk); (try clear hi)) | (go_at_call 12; (with_reducible refine (Ext.safe_Header.calls a0 a1 t149 _ ?side1 A9.out).mono ?_); (case side1 => exact Ext.tabs_at HT.out (by repeat (first | (with_reducible first | exact HB.out | apply below_alloc | apply pw_below_drewN | apply below_drew1) | exact HB.out))); rintro e w42 ⟨rfl, hb⟩; have n0_ := Aside0.mk (below_step (by repeat (first | (with_reducible first | exact HB.out | apply below_alloc | apply pw_below_drewN | apply below_drew1) | exact HB.out)) hb); clear HB; have HB := n0_; clear n0_; (try clear hb); (try clear hb2); (try clear hk); (try clear hi)) | (go_at_call 12; (with_reducible refine (Ext.safe_Header.calls t146 a1 t150 _ ?side1 A10.out).mono ?_); (case side1 => exact Ext.tabs_at HT.out (by repeat (first | (with_reducible first | exact HB.out | apply below_alloc | apply pw_below_drewN | apply below_drew1) | exact HB.out))); rintro e w43 ⟨rfl, hb⟩; have n0_ := Aside0.mk (below_step (by repeat (first | (with_reducible first | exact HB.out | apply below_alloc | apply pw_below_drewN | apply below_drew1) | exact HB.out)) hb); clear HB; have HB := n0_; clear n0_; (try clear hb); (try clear hb2); (try clear hk); (try clear hi)) | (go_at_call 13; (with_reducible refine (safe_Never.calls k a0 t151 _ A12.out).mono ?_); rintro e w44 ⟨rfl, hb⟩; have n0_ := Aside0.mk (below_step (by repeat (first | (with_reducible first | exact HB.out | apply below_alloc | apply pw_below_drewN | apply below_drew1) | exact HB.out)) hb); clear HB; have HB := n0_; clear n0_; (try clear hb); (try clear hb2); (try clear hk); (try clear hi)) | (go_at_call 13; (with_reducible refine (safe_Never.calls k t146 t152 _ A13.out).mono ?_); rintro e w45 ⟨rfl, hb⟩; have n0_ := Aside0.mk (below_step (by repeat (first | (with_reducible first | exact HB.out | apply below_alloc | apply pw_below_drewN | apply below_drew1) | exact HB.out)) hb); clear HB; have HB := n0_; clear n0_; (try clear hb); (try clear hb2); (try clear hk); (try clear hi)) | (go_at_call 14; (with_reducible refine (safe_Reads.calls k a0 t153 _ A15.out).mono ?_); rintro e w46 ⟨rfl, hb⟩; have n0_ := Aside0.mk (below_step (by repeat (first | (with_reducible first | exact HB.out | apply below_alloc | apply pw_below_drewN | apply below_drew1) | exact HB.out)) hb); clear HB; have HB := n0_; clear n0_; (try clear hb); (try clear hb2); (try clear hk); (try clear hi)) | (go_at_call 14; (with_reducible refine (safe_Reads.calls k t146 t154 _ A16.out).mono ?_); rintro e w47 ⟨rfl, hb⟩; have n0_ := Aside0.mk (below_step (by repeat (first | (with_reducible first | exact HB.out | apply below_alloc | apply pw_below_drewN | apply below_drew1) | exact HB.out)) hb); clear HB; have HB := n0_; clear n0_; (try clear hb); (try clear hb2); (try clear hk); (try clear hi)) | (go_at_call 15; (with_reducible refine (safe_Hidden.calls a0 t155 _ A18.out).mono ?_); rintro e w48 ⟨rfl, hb⟩; have n0_ := Aside0.mk (below_step (by repeat (first | (with_reducible first | exact HB.out | apply below_alloc | apply pw_below_drewN | apply below_drew1) | exact HB.out)) hb); clear HB; have HB := n0_; clear n0_; (try clear hb); (try clear hb2); (try clear hk); (try clear hi)) | (go_at_call 15; (with_reducible refine (safe_Hidden.calls t146 t156 _ A19.out).mono ?_); rintro e w49 ⟨rfl, hb⟩; have n0_ := Aside0.mk (below_step (by repeat (first | (with_reducible first | exact HB.out | apply below_alloc | apply pw_below_drewN | apply below_drew1) | exact HB.out)) hb); clear HB; have HB := n0_; clear n0_; (try clear hb); (try clear hb2); (try clear hk); (try clear hi)) | (go_at_call 12; (with_reducible refine (Ext.safe_Header.calls a0 a1 false _ ?side1 A21.out).mono ?_); (case side1 => exact Ext.tabs_at HT.out (by repeat (first | (with_reducible first | exact HB.out | apply below_alloc | apply pw_below_drewN | apply below_drew1) | exact HB.out))); rintro e w50 ⟨rfl, hb⟩; have n0_ := Aside0.mk (below_step (by repeat (first | (with_reducible first | exact HB.out | apply below_alloc | apply pw_below_drewN | apply below_drew1) | exact HB.out)) hb); clear HB; have HB := n0_; clear n0_; (try clear hb); (try clear hb2); (try clear hk); (try clear hi)))
                all_goals (try (exfalso; omega))
                all_goals go_ret
                all_goals exact ⟨by first | rfl | (simp [errW_none, errW_some] <;> rfl) | (simp [*, errW_none, errW_some] <;> rfl) | (simp [Ext.ne_nil_empty]; done) | (exfalso; simp_all; done), by repeat (first | (with_reducible first | exact HB.out | apply below_alloc | apply pw_below_drewN | apply below_drew1) | exact HB.out)⟩
            · rw [if_neg c20] at H
              have c20b0 : (t155 == t156) = false := by simpa using c20
              (try (have c20b1 : decide (t155 = t156) = false := by simpa using c20))
              (try (have c20b2 : (t155 == t156) = false := by simpa using c20))
              (try (have c20b3 : ¬ (t155 = t156) := by simpa using c20))
              clear c20
              exact absurd (Option.some.inj H) (by decide)
          · rw [if_neg c17] at H
            have c17b0 : (t153 == t154) = false := by simpa using c17
            (try (have c17b1 : decide (t153 = t154) = false := by simpa using c17))
            (try (have c17b2 : (t153 == t154) = false := by simpa using c17))
            (try (have c17b3 : ¬ (t153 = t154) := by simpa using c17))
            clear c17
            exact absurd (Option.some.inj H) (by decide)
        · rw [if_neg c14] at H
          have c14b0 : (t151 == t152) = false := by simpa using c14
          (try (have c14b1 : decide (t151 = t152) = false := by simpa using c14))
          (try (have c14b2 : (t151 == t152) = false := by simpa using c14))
          (try (have c14b3 : ¬ (t151 = t152) := by simpa using c14))
          clear c14
          exact absurd (Option.some.inj H) (by decide)
      · rw [if_neg c11] at H
        have c11b0 : (t149 == t150) = false := by simpa using c11
        (try (have c11b1 : decide (t149 = t150) = false := by simpa using c11))
        (try (have c11b2 : (t149 == t150) = false := by simpa using c11))
        (try (have c11b3 : ¬ (t149 = t150) := by simpa using c11))
        clear c11
        exact absurd (Option.some.inj H) (by decide)
    · rw [if_neg c8] at H
      have c8b0 : (t147 == t148) = false := by simpa using c8
      (try (have c8b1 : decide (t147 = t148) = false := by simpa using c8))
      (try (have c8b2 : (t147 == t148) = false := by simpa using c8))
      (try (have c8b3 : ¬ (t147 = t148) := by simpa using c8))
      clear c8
      exact absurd (Option.some.inj H) (by decide)
  · replace c5 := Bool.eq_false_iff.mpr c5
    subst c5
    have H1 : (some false) = some true := by rw [if_neg (show ¬ (false = true) by decide)] at H; exact H
    clear H
    have H := H1
    clear H1
    exact absurd (Option.some.inj H) (by decide)
end Go.Proofs.YtikhboebmmmopaaDoor.Fun
