-- Written by xprint.py, a program of this session's, by means of the kit's print. Not trusted: Lean checks it.
import Derived.Test.YtkdcgodpobhfhaaDoorFun0
import Derived.Test.YtkdcgodpobhfhaaDoorFun1
import Derived.Test.YtkdcgodpobhfhaaDoorFun3
namespace Go.Proofs.YtkdcgodpobhfhaaDoor.Fun
open Go.RowKit Go.Proofs.YtkdcgodpobhfhaaDoorW.PrintWords Go.Proofs.YtkdcgodpobhfhaaDoorW.PrintLast Go.Proofs.YtkdcgodpobhfhaaDoorW.PrintMore
attribute [local go_sem] max2_int min2_int max_two min_two max_three min_three max_four min_four   -- for this text's walks alone
set_option linter.unusedVariables false
set_option linter.unusedSimpArgs false

/-! ### transeptlaw09_TokenAgain: function 5 -/
def transeptlaw09_TokenAgain.j0 : Nat → ByteArray → Bool → ByteArray → ByteArray → ByteArray → Bool → Option (Bool)
  | 0, _, _, _, _, _, _ => none
  | k + 1, x0, x3, x4, x5, x6, x32 => if x32 = true then (some false) else (if x3 = true then ((token_Trim.f x4).bind fun t215 => (if t215.toList = x4.toList then (if (x4.size : Int) ≤ (x0.size : Int) then ((Ext.token_Lower.f x5).bind fun t216 => (if t216.toList = x5.toList then (if (x5.size : Int) = (x0.size : Int) then ((token_Method.f k x6).bind fun t217 => (if t217.toList = x6.toList then ((Ext.token_Fold.f x0 x5).bind fun t218 => (if t218 = true then ((Ext.token_Fold.f x6 x0).bind fun t219 => (if t219 = true then ((Ext.token_Never.f x0).bind fun t220 => ((Ext.token_Never.f x5).bind fun t221 => (some (t220 == t221)))) else (some false))) else (some false))) else (some false))) else (some false)) else (some false))) else (some false)) else (some false))) else (some false))
def transeptlaw09_TokenAgain.f (k : Nat) (a0 : ByteArray) : Option (Bool) := (transeptlaw09_shown.f k).bind fun t207 => ((token_Trim.f a0).bind fun t208 => ((Ext.token_Lower.f a0).bind fun t209 => ((token_Method.f k a0).bind fun t210 => ((Ext.token_Name.f a0).bind fun t211 => (if t211 = true then ((token_Value.f a0).bind fun t212 => (if t212 = true then (if t208.toList = a0.toList then ((Ext.token_Name.f t209).bind fun t213 => ((Ext.token_Name.f a0).bind fun t214 => (transeptlaw09_TokenAgain.j0 k a0 t207 t208 t209 t210 (t213 != t214)))) else (transeptlaw09_TokenAgain.j0 k a0 t207 t208 t209 t210 true)) else (transeptlaw09_TokenAgain.j0 k a0 t207 t208 t209 t210 true))) else (transeptlaw09_TokenAgain.j0 k a0 t207 t208 t209 t210 false))))))
theorem transeptlaw09_TokenAgain.mono_l : ∀ k, (∀ y0 y1 y2 y3 y4 y5, LeO (transeptlaw09_TokenAgain.j0 k y0 y1 y2 y3 y4 y5) (transeptlaw09_TokenAgain.j0 (k + 1) y0 y1 y2 y3 y4 y5))
  | 0 => fun _ _ _ _ _ _ r h => by simp [transeptlaw09_TokenAgain.j0] at h
  | k + 1 => by
    have ih0 := transeptlaw09_TokenAgain.mono_l k
    · intro y0 y1 y2 y3 y4 y5
      unfold transeptlaw09_TokenAgain.j0
      repeat' first
      | (with_reducible exact ih0 _ _ _ _ _ _)
      | (with_reducible exact token_Method.mono _ _)
      | (with_reducible exact transeptlaw09_shown.mono _)
      | (with_reducible exact LeO.refl _)
      | (with_reducible exact LeO.none _)
      | (with_reducible refine LeO.ite ?_ ?_)
      | (with_reducible refine LeO.bind ?_ (fun _ => ?_))
      | exact ih0 _ _ _ _ _ _
      | exact token_Method.mono _ _
      | exact transeptlaw09_shown.mono _
      | exact LeO.none _
      | refine LeO.ite ?_ ?_
      | refine LeO.bind ?_ (fun _ => ?_)
theorem transeptlaw09_TokenAgain.mono : ∀ a0 k, LeO (transeptlaw09_TokenAgain.f k a0) (transeptlaw09_TokenAgain.f (k + 1) a0) := by
  intro a0 k
  have ih0 := transeptlaw09_TokenAgain.mono_l k
  unfold transeptlaw09_TokenAgain.f
  repeat' first
      | (with_reducible exact ih0 _ _ _ _ _ _)
      | (with_reducible exact token_Method.mono _ _)
      | (with_reducible exact transeptlaw09_shown.mono _)
      | (with_reducible exact LeO.refl _)
      | (with_reducible exact LeO.none _)
      | (with_reducible refine LeO.ite ?_ ?_)
      | (with_reducible refine LeO.bind ?_ (fun _ => ?_))
      | exact ih0 _ _ _ _ _ _
      | exact token_Method.mono _ _
      | exact transeptlaw09_shown.mono _
      | exact LeO.none _
      | refine LeO.ite ?_ ?_
      | refine LeO.bind ?_ (fun _ => ?_)
set_option maxHeartbeats 8000000 in
set_option maxRecDepth 100000 in
theorem transeptlaw09_TokenAgain.calls (k : Nat) (a0 : ByteArray) (r : Bool) (w : World) (hT : Ext.Tabs w) (h : transeptlaw09_TokenAgain.f k a0 = some r) :
    Calls Tryd.prog 5 #[.string a0] w fun e w' => e = .returned (.bool r) ∧ Below w.heap.size w w' := by
  have HB := Aside0.mk (Below.refl w.heap.size w)
  have HT := Aside0.mk hT
  clear hT
  have H : ((transeptlaw09_shown.f k).bind fun t207 => ((token_Trim.f a0).bind fun t208 => ((Ext.token_Lower.f a0).bind fun t209 => ((token_Method.f k a0).bind fun t210 => ((Ext.token_Name.f a0).bind fun t211 => (if t211 = true then ((token_Value.f a0).bind fun t212 => (if t212 = true then (if t208.toList = a0.toList then ((Ext.token_Name.f t209).bind fun t213 => ((Ext.token_Name.f a0).bind fun t214 => (transeptlaw09_TokenAgain.j0 k a0 t207 t208 t209 t210 (t213 != t214)))) else (transeptlaw09_TokenAgain.j0 k a0 t207 t208 t209 t210 true)) else (transeptlaw09_TokenAgain.j0 k a0 t207 t208 t209 t210 true))) else (transeptlaw09_TokenAgain.j0 k a0 t207 t208 t209 t210 false))))))) = some r := h
  clear h
  replace H := Option.bind_eq_some_iff.mp H
  obtain ⟨t207, A20, H⟩ := H
  replace H : ((token_Trim.f a0).bind fun t208 => ((Ext.token_Lower.f a0).bind fun t209 => ((token_Method.f k a0).bind fun t210 => ((Ext.token_Name.f a0).bind fun t211 => (if t211 = true then ((token_Value.f a0).bind fun t212 => (if t212 = true then (if t208.toList = a0.toList then ((Ext.token_Name.f t209).bind fun t213 => ((Ext.token_Name.f a0).bind fun t214 => (transeptlaw09_TokenAgain.j0 k a0 t207 t208 t209 t210 (t213 != t214)))) else (transeptlaw09_TokenAgain.j0 k a0 t207 t208 t209 t210 true)) else (transeptlaw09_TokenAgain.j0 k a0 t207 t208 t209 t210 true))) else (transeptlaw09_TokenAgain.j0 k a0 t207 t208 t209 t210 false)))))) = some r := H
  have A2 := Aside0.mk A20
  clear A20
  replace H := Option.bind_eq_some_iff.mp H
  obtain ⟨t208, A30, H⟩ := H
  replace H : ((Ext.token_Lower.f a0).bind fun t209 => ((token_Method.f k a0).bind fun t210 => ((Ext.token_Name.f a0).bind fun t211 => (if t211 = true then ((token_Value.f a0).bind fun t212 => (if t212 = true then (if t208.toList = a0.toList then ((Ext.token_Name.f t209).bind fun t213 => ((Ext.token_Name.f a0).bind fun t214 => (transeptlaw09_TokenAgain.j0 k a0 t207 t208 t209 t210 (t213 != t214)))) else (transeptlaw09_TokenAgain.j0 k a0 t207 t208 t209 t210 true)) else (transeptlaw09_TokenAgain.j0 k a0 t207 t208 t209 t210 true))) else (transeptlaw09_TokenAgain.j0 k a0 t207 t208 t209 t210 false))))) = some r := H
  have A3 := Aside0.mk A30
  clear A30
  replace H := Option.bind_eq_some_iff.mp H
  obtain ⟨t209, A40, H⟩ := H
  replace H : ((token_Method.f k a0).bind fun t210 => ((Ext.token_Name.f a0).bind fun t211 => (if t211 = true then ((token_Value.f a0).bind fun t212 => (if t212 = true then (if t208.toList = a0.toList then ((Ext.token_Name.f t209).bind fun t213 => ((Ext.token_Name.f a0).bind fun t214 => (transeptlaw09_TokenAgain.j0 k a0 t207 t208 t209 t210 (t213 != t214)))) else (transeptlaw09_TokenAgain.j0 k a0 t207 t208 t209 t210 true)) else (transeptlaw09_TokenAgain.j0 k a0 t207 t208 t209 t210 true))) else (transeptlaw09_TokenAgain.j0 k a0 t207 t208 t209 t210 false)))) = some r := H
  have A4 := Aside0.mk A40
  clear A40
  replace H := Option.bind_eq_some_iff.mp H
  obtain ⟨t210, A50, H⟩ := H
  replace H : ((Ext.token_Name.f a0).bind fun t211 => (if t211 = true then ((token_Value.f a0).bind fun t212 => (if t212 = true then (if t208.toList = a0.toList then ((Ext.token_Name.f t209).bind fun t213 => ((Ext.token_Name.f a0).bind fun t214 => (transeptlaw09_TokenAgain.j0 k a0 t207 t208 t209 t210 (t213 != t214)))) else (transeptlaw09_TokenAgain.j0 k a0 t207 t208 t209 t210 true)) else (transeptlaw09_TokenAgain.j0 k a0 t207 t208 t209 t210 true))) else (transeptlaw09_TokenAgain.j0 k a0 t207 t208 t209 t210 false))) = some r := H
  have A5 := Aside0.mk A50
  clear A50
  have HC6 := Aside0.mk H
  clear H
  go_enter Tryd.func5, Tryd.ntmps5
  go_upto_region 5 with (first | ((with_reducible refine gate_callee (f := 9) rfl ?_); refine goesL_ (some 7) rfl rfl Tryd.func9 (by kernel_rfl) rfl #[] rfl (by (try simp only [List.map_toArray, List.map_cons, List.map_nil]); first | done | rfl | (simp only [List.length_drop, List.length_take]; rfl)) ?_; (with_reducible refine (transeptlaw09_shown.calls k  t207 _ ?side1 A2.out).mono ?_); (case side1 => exact Ext.tabs_at HT.out (by repeat (first | (with_reducible first | exact HB.out | apply below_alloc | apply pw_below_drewN | apply below_drew1) | exact HB.out))); rintro e w7 ⟨rfl, hb⟩; refine ⟨_, rfl, ?_⟩; have n0_ := Aside0.mk (below_step (by repeat (first | (with_reducible first | exact HB.out | apply below_alloc | apply pw_below_drewN | apply below_drew1) | exact HB.out)) hb); clear HB; have HB := n0_; clear n0_; (try clear hb); (try clear hb2); (try clear hk); (try clear hi)) | ((with_reducible refine gate_callee (f := 14) rfl ?_); refine goesL_ (some 9) rfl rfl Tryd.func14 (by kernel_rfl) rfl #[.string a0] rfl (by (try simp only [List.map_toArray, List.map_cons, List.map_nil]); first | done | rfl | (simp only [List.length_drop, List.length_take]; rfl)) ?_; (with_reducible refine (token_Trim.calls a0 t208 _ A3.out).mono ?_); rintro e w8 ⟨rfl, hb⟩; refine ⟨_, rfl, ?_⟩; have n0_ := Aside0.mk (below_step (by repeat (first | (with_reducible first | exact HB.out | apply below_alloc | apply pw_below_drewN | apply below_drew1) | exact HB.out)) hb); clear HB; have HB := n0_; clear n0_; (try clear hb); (try clear hb2); (try clear hk); (try clear hi)) | ((with_reducible refine gate_callee (f := 16) rfl ?_); refine goesL_ (some 11) rfl rfl Tryd.func16 (by kernel_rfl) rfl #[.string a0] rfl (by (try simp only [List.map_toArray, List.map_cons, List.map_nil]); first | done | rfl | (simp only [List.length_drop, List.length_take]; rfl)) ?_; (with_reducible refine (Ext.token_Lower.calls a0 t209 _ A4.out).mono ?_); rintro e w9 ⟨rfl, hb⟩; refine ⟨_, rfl, ?_⟩; have n0_ := Aside0.mk (below_step (by repeat (first | (with_reducible first | exact HB.out | apply below_alloc | apply pw_below_drewN | apply below_drew1) | exact HB.out)) hb); clear HB; have HB := n0_; clear n0_; (try clear hb); (try clear hb2); (try clear hk); (try clear hi)) | ((with_reducible refine gate_callee (f := 19) rfl ?_); refine goesL_ (some 13) rfl rfl Tryd.func19 (by kernel_rfl) rfl #[.string a0] rfl (by (try simp only [List.map_toArray, List.map_cons, List.map_nil]); first | done | rfl | (simp only [List.length_drop, List.length_take]; rfl)) ?_; (with_reducible refine (token_Method.calls k a0 t210 _ A5.out).mono ?_); rintro e w10 ⟨rfl, hb⟩; refine ⟨_, rfl, ?_⟩; have n0_ := Aside0.mk (below_step (by repeat (first | (with_reducible first | exact HB.out | apply below_alloc | apply pw_below_drewN | apply below_drew1) | exact HB.out)) hb); clear HB; have HB := n0_; clear n0_; (try clear hb); (try clear hb2); (try clear hk); (try clear hi)))
  (try simp only [Act.put, List.setIfInBounds_toArray, List.set_cons_zero, List.set_cons_succ])
  go_cut [32] (fun v32 wc => ∃ (kq : Nat) (x32_5 : Bool), v32 = .bool x32_5 ∧ Aside0 (transeptlaw09_TokenAgain.j0 kq a0 t207 t208 t209 t210 x32_5 = some r) ∧ Aside0 (kq ≤ k) ∧ Aside0 (Below w.heap.size w wc))
  case first =>
    have H := HC6.out
    clear HC6
    replace H := Option.bind_eq_some_iff.mp H
    obtain ⟨t211, A110, H⟩ := H
    replace H : (if t211 = true then ((token_Value.f a0).bind fun t212 => (if t212 = true then (if t208.toList = a0.toList then ((Ext.token_Name.f t209).bind fun t213 => ((Ext.token_Name.f a0).bind fun t214 => (transeptlaw09_TokenAgain.j0 k a0 t207 t208 t209 t210 (t213 != t214)))) else (transeptlaw09_TokenAgain.j0 k a0 t207 t208 t209 t210 true)) else (transeptlaw09_TokenAgain.j0 k a0 t207 t208 t209 t210 true))) else (transeptlaw09_TokenAgain.j0 k a0 t207 t208 t209 t210 false)) = some r := H
    have A11 := Aside0.mk A110
    clear A110
    by_cases c12 : t211 = true
    · subst c12
      have H1 : ((token_Value.f a0).bind fun t212 => (if t212 = true then (if t208.toList = a0.toList then ((Ext.token_Name.f t209).bind fun t213 => ((Ext.token_Name.f a0).bind fun t214 => (transeptlaw09_TokenAgain.j0 k a0 t207 t208 t209 t210 (t213 != t214)))) else (transeptlaw09_TokenAgain.j0 k a0 t207 t208 t209 t210 true)) else (transeptlaw09_TokenAgain.j0 k a0 t207 t208 t209 t210 true))) = some r := by rw [if_pos rfl] at H; exact H
      clear H
      have H := H1
      clear H1
      replace H := Option.bind_eq_some_iff.mp H
      obtain ⟨t212, A130, H⟩ := H
      replace H : (if t212 = true then (if t208.toList = a0.toList then ((Ext.token_Name.f t209).bind fun t213 => ((Ext.token_Name.f a0).bind fun t214 => (transeptlaw09_TokenAgain.j0 k a0 t207 t208 t209 t210 (t213 != t214)))) else (transeptlaw09_TokenAgain.j0 k a0 t207 t208 t209 t210 true)) else (transeptlaw09_TokenAgain.j0 k a0 t207 t208 t209 t210 true)) = some r := H
      have A13 := Aside0.mk A130
      clear A130
      by_cases c14 : t212 = true
      · subst c14
        have H1 : (if t208.toList = a0.toList then ((Ext.token_Name.f t209).bind fun t213 => ((Ext.token_Name.f a0).bind fun t214 => (transeptlaw09_TokenAgain.j0 k a0 t207 t208 t209 t210 (t213 != t214)))) else (transeptlaw09_TokenAgain.j0 k a0 t207 t208 t209 t210 true)) = some r := by rw [if_pos rfl] at H; exact H
        clear H
        have H := H1
        clear H1
        by_cases c15 : t208.toList = a0.toList
        · rw [if_pos c15] at H
          have c15b0 : (t208.toList == a0.toList) = true := beq_iff_eq.mpr c15
          have c15b1 : (t208.toList != a0.toList) = false := bne_eq_false_iff_eq.mpr c15
          clear c15
          (first | rw [c15b0] | (simp only [i64_w, i32_w]; rw [c15b0]) | skip)
          replace H := Option.bind_eq_some_iff.mp H
          obtain ⟨t213, A160, H⟩ := H
          replace H : ((Ext.token_Name.f a0).bind fun t214 => (transeptlaw09_TokenAgain.j0 k a0 t207 t208 t209 t210 (t213 != t214))) = some r := H
          have A16 := Aside0.mk A160
          clear A160
          replace H := Option.bind_eq_some_iff.mp H
          obtain ⟨t214, A170, H⟩ := H
          obtain rfl := Option.some.inj (A11.out.symm.trans A170)
          replace H : (transeptlaw09_TokenAgain.j0 k a0 t207 t208 t209 t210 (t213 != true)) = some r := H
          have A17 := Aside0.mk A170
          clear A170
          have H' := Aside0.mk H
          clear H
          go_wp2_with (first | ((with_reducible refine gate_callee (f := 10) rfl ?_); refine goesL_ (some 15) rfl rfl Tryd.func10 (by kernel_rfl) rfl #[.string a0] rfl (by (try simp only [List.map_toArray, List.map_cons, List.map_nil]); first | done | rfl | (simp only [List.length_drop, List.length_take]; rfl)) ?_; (with_reducible refine (Ext.token_Name.calls a0 true _ ?side1 A11.out).mono ?_); (case side1 => exact Ext.tabs_at HT.out (by repeat (first | (with_reducible first | exact HB.out | apply below_alloc | apply pw_below_drewN | apply below_drew1) | exact HB.out))); rintro e w18 ⟨rfl, hb⟩; refine ⟨_, rfl, ?_⟩; have n0_ := Aside0.mk (below_step (by repeat (first | (with_reducible first | exact HB.out | apply below_alloc | apply pw_below_drewN | apply below_drew1) | exact HB.out)) hb); clear HB; have HB := n0_; clear n0_; (try clear hb); (try clear hb2); (try clear hk); (try clear hi)) | (go_at_call 12; (with_reducible refine (token_Value.calls a0 true _ A13.out).mono ?_); rintro e w19 ⟨rfl, hb⟩; have n0_ := Aside0.mk (below_step (by repeat (first | (with_reducible first | exact HB.out | apply below_alloc | apply pw_below_drewN | apply below_drew1) | exact HB.out)) hb); clear HB; have HB := n0_; clear n0_; (try clear hb); (try clear hb2); (try clear hk); (try clear hi)) | (go_at_call 10; (with_reducible refine (Ext.token_Name.calls t209 t213 _ ?side1 A16.out).mono ?_); (case side1 => exact Ext.tabs_at HT.out (by repeat (first | (with_reducible first | exact HB.out | apply below_alloc | apply pw_below_drewN | apply below_drew1) | exact HB.out))); rintro e w20 ⟨rfl, hb⟩; have n0_ := Aside0.mk (below_step (by repeat (first | (with_reducible first | exact HB.out | apply below_alloc | apply pw_below_drewN | apply below_drew1) | exact HB.out)) hb); clear HB; have HB := n0_; clear n0_; (try clear hb); (try clear hb2); (try clear hk); (try clear hi)) | (go_at_call 10; (with_reducible refine (Ext.token_Name.calls a0 true _ ?side1 A17.out).mono ?_); (case side1 => exact Ext.tabs_at HT.out (by repeat (first | (with_reducible first | exact HB.out | apply below_alloc | apply pw_below_drewN | apply below_drew1) | exact HB.out))); rintro e w21 ⟨rfl, hb⟩; have n0_ := Aside0.mk (below_step (by repeat (first | (with_reducible first | exact HB.out | apply below_alloc | apply pw_below_drewN | apply below_drew1) | exact HB.out)) hb); clear HB; have HB := n0_; clear n0_; (try clear hb); (try clear hb2); (try clear hk); (try clear hi)))
          go_meet
          case rel => exact ⟨_, ((t213 != true)), (by first | rfl | (simp; done) | (simp [*]; done)), H', ⟨by first | omega | exact Nat.le_refl _⟩, ⟨by repeat (first | (with_reducible first | exact HB.out | apply below_alloc | apply pw_below_drewN | apply below_drew1) | exact HB.out)⟩⟩
        · rw [if_neg c15] at H
          have c15b0 : (t208.toList == a0.toList) = false := beq_eq_false_iff_ne.mpr c15
          have c15b1 : (t208.toList != a0.toList) = true := bne_iff_ne.mpr c15
          (first | rw [c15b0] | (simp only [i64_w, i32_w]; rw [c15b0]) | skip)
          have H' := Aside0.mk H
          clear H
          go_wp2_with (first | ((with_reducible refine gate_callee (f := 10) rfl ?_); refine goesL_ (some 15) rfl rfl Tryd.func10 (by kernel_rfl) rfl #[.string a0] rfl (by (try simp only [List.map_toArray, List.map_cons, List.map_nil]); first | done | rfl | (simp only [List.length_drop, List.length_take]; rfl)) ?_; (with_reducible refine (Ext.token_Name.calls a0 true _ ?side1 A11.out).mono ?_); (case side1 => exact Ext.tabs_at HT.out (by repeat (first | (with_reducible first | exact HB.out | apply below_alloc | apply pw_below_drewN | apply below_drew1) | exact HB.out))); rintro e w22 ⟨rfl, hb⟩; refine ⟨_, rfl, ?_⟩; have n0_ := Aside0.mk (below_step (by repeat (first | (with_reducible first | exact HB.out | apply below_alloc | apply pw_below_drewN | apply below_drew1) | exact HB.out)) hb); clear HB; have HB := n0_; clear n0_; (try clear hb); (try clear hb2); (try clear hk); (try clear hi)) | (go_at_call 12; (with_reducible refine (token_Value.calls a0 true _ A13.out).mono ?_); rintro e w23 ⟨rfl, hb⟩; have n0_ := Aside0.mk (below_step (by repeat (first | (with_reducible first | exact HB.out | apply below_alloc | apply pw_below_drewN | apply below_drew1) | exact HB.out)) hb); clear HB; have HB := n0_; clear n0_; (try clear hb); (try clear hb2); (try clear hk); (try clear hi)))
          go_meet
          case rel => exact ⟨_, (true), (by first | rfl | (simp; done) | (simp [*]; done)), H', ⟨by first | omega | exact Nat.le_refl _⟩, ⟨by repeat (first | (with_reducible first | exact HB.out | apply below_alloc | apply pw_below_drewN | apply below_drew1) | exact HB.out)⟩⟩
      · replace c14 := Bool.eq_false_iff.mpr c14
        subst c14
        have H1 : (transeptlaw09_TokenAgain.j0 k a0 t207 t208 t209 t210 true) = some r := by rw [if_neg (show ¬ (false = true) by decide)] at H; exact H
        clear H
        have H := H1
        clear H1
        have H' := Aside0.mk H
        clear H
        go_wp2_with (first | ((with_reducible refine gate_callee (f := 10) rfl ?_); refine goesL_ (some 15) rfl rfl Tryd.func10 (by kernel_rfl) rfl #[.string a0] rfl (by (try simp only [List.map_toArray, List.map_cons, List.map_nil]); first | done | rfl | (simp only [List.length_drop, List.length_take]; rfl)) ?_; (with_reducible refine (Ext.token_Name.calls a0 true _ ?side1 A11.out).mono ?_); (case side1 => exact Ext.tabs_at HT.out (by repeat (first | (with_reducible first | exact HB.out | apply below_alloc | apply pw_below_drewN | apply below_drew1) | exact HB.out))); rintro e w24 ⟨rfl, hb⟩; refine ⟨_, rfl, ?_⟩; have n0_ := Aside0.mk (below_step (by repeat (first | (with_reducible first | exact HB.out | apply below_alloc | apply pw_below_drewN | apply below_drew1) | exact HB.out)) hb); clear HB; have HB := n0_; clear n0_; (try clear hb); (try clear hb2); (try clear hk); (try clear hi)) | (go_at_call 12; (with_reducible refine (token_Value.calls a0 false _ A13.out).mono ?_); rintro e w25 ⟨rfl, hb⟩; have n0_ := Aside0.mk (below_step (by repeat (first | (with_reducible first | exact HB.out | apply below_alloc | apply pw_below_drewN | apply below_drew1) | exact HB.out)) hb); clear HB; have HB := n0_; clear n0_; (try clear hb); (try clear hb2); (try clear hk); (try clear hi)))
        go_meet
        case rel => exact ⟨_, (true), (by first | rfl | (simp; done) | (simp [*]; done)), H', ⟨by first | omega | exact Nat.le_refl _⟩, ⟨by repeat (first | (with_reducible first | exact HB.out | apply below_alloc | apply pw_below_drewN | apply below_drew1) | exact HB.out)⟩⟩
    · replace c12 := Bool.eq_false_iff.mpr c12
      subst c12
      have H1 : (transeptlaw09_TokenAgain.j0 k a0 t207 t208 t209 t210 false) = some r := by rw [if_neg (show ¬ (false = true) by decide)] at H; exact H
      clear H
      have H := H1
      clear H1
      have H' := Aside0.mk H
      clear H
      go_wp2_with (first | ((with_reducible refine gate_callee (f := 10) rfl ?_); refine goesL_ (some 15) rfl rfl Tryd.func10 (by kernel_rfl) rfl #[.string a0] rfl (by (try simp only [List.map_toArray, List.map_cons, List.map_nil]); first | done | rfl | (simp only [List.length_drop, List.length_take]; rfl)) ?_; (with_reducible refine (Ext.token_Name.calls a0 false _ ?side1 A11.out).mono ?_); (case side1 => exact Ext.tabs_at HT.out (by repeat (first | (with_reducible first | exact HB.out | apply below_alloc | apply pw_below_drewN | apply below_drew1) | exact HB.out))); rintro e w26 ⟨rfl, hb⟩; refine ⟨_, rfl, ?_⟩; have n0_ := Aside0.mk (below_step (by repeat (first | (with_reducible first | exact HB.out | apply below_alloc | apply pw_below_drewN | apply below_drew1) | exact HB.out)) hb); clear HB; have HB := n0_; clear n0_; (try clear hb); (try clear hb2); (try clear hk); (try clear hi)))
      go_meet
      case rel => exact ⟨_, (false), (by first | rfl | (simp; done) | (simp [*]; done)), H', ⟨by first | omega | exact Nat.le_refl _⟩, ⟨by repeat (first | (with_reducible first | exact HB.out | apply below_alloc | apply pw_below_drewN | apply below_drew1) | exact HB.out)⟩⟩
  case rest =>
    clear HC6
    try clear c1
    try clear p2
    try clear c5
    try clear c9
    try clear c10
    try clear c12
    try clear c14
    try clear c15
    try clear c15b0
    try clear c15b1
    try clear c16
    try clear c19
    obtain ⟨kq, x32_5, rfl, HA, HJ5, HB⟩ := hcut
    cases kq with
    | zero => exact absurd HA.out (by simp [transeptlaw09_TokenAgain.j0])
    | succ kj5 =>
      have H := HA.out
      clear HA
      simp only [transeptlaw09_TokenAgain.j0] at H
      by_cases c27 : x32_5 = true
      · subst c27
        have H1 : (some false) = some r := by rw [if_pos rfl] at H; exact H
        clear H
        have H := H1
        clear H1
        obtain rfl := Option.some.inj H
        go_wp2
        all_goals go_ret
        all_goals exact ⟨by first | rfl | (simp [errW_none, errW_some] <;> rfl) | (simp [*, errW_none, errW_some] <;> rfl), by repeat (first | (with_reducible first | exact HB.out | apply below_alloc | apply pw_below_drewN | apply below_drew1) | exact HB.out)⟩
      · replace c27 := Bool.eq_false_iff.mpr c27
        subst c27
        have H1 : (if t207 = true then ((token_Trim.f t208).bind fun t215 => (if t215.toList = t208.toList then (if (t208.size : Int) ≤ (a0.size : Int) then ((Ext.token_Lower.f t209).bind fun t216 => (if t216.toList = t209.toList then (if (t209.size : Int) = (a0.size : Int) then ((token_Method.f kj5 t210).bind fun t217 => (if t217.toList = t210.toList then ((Ext.token_Fold.f a0 t209).bind fun t218 => (if t218 = true then ((Ext.token_Fold.f t210 a0).bind fun t219 => (if t219 = true then ((Ext.token_Never.f a0).bind fun t220 => ((Ext.token_Never.f t209).bind fun t221 => (some (t220 == t221)))) else (some false))) else (some false))) else (some false))) else (some false)) else (some false))) else (some false)) else (some false))) else (some false)) = some r := by rw [if_neg (show ¬ (false = true) by decide)] at H; exact H
        clear H
        have H := H1
        clear H1
        by_cases c28 : t207 = true
        · subst c28
          have H1 : ((token_Trim.f t208).bind fun t215 => (if t215.toList = t208.toList then (if (t208.size : Int) ≤ (a0.size : Int) then ((Ext.token_Lower.f t209).bind fun t216 => (if t216.toList = t209.toList then (if (t209.size : Int) = (a0.size : Int) then ((token_Method.f kj5 t210).bind fun t217 => (if t217.toList = t210.toList then ((Ext.token_Fold.f a0 t209).bind fun t218 => (if t218 = true then ((Ext.token_Fold.f t210 a0).bind fun t219 => (if t219 = true then ((Ext.token_Never.f a0).bind fun t220 => ((Ext.token_Never.f t209).bind fun t221 => (some (t220 == t221)))) else (some false))) else (some false))) else (some false))) else (some false)) else (some false))) else (some false)) else (some false))) = some r := by rw [if_pos rfl] at H; exact H
          clear H
          have H := H1
          clear H1
          replace H := Option.bind_eq_some_iff.mp H
          obtain ⟨t215, A290, H⟩ := H
          replace H : (if t215.toList = t208.toList then (if (t208.size : Int) ≤ (a0.size : Int) then ((Ext.token_Lower.f t209).bind fun t216 => (if t216.toList = t209.toList then (if (t209.size : Int) = (a0.size : Int) then ((token_Method.f kj5 t210).bind fun t217 => (if t217.toList = t210.toList then ((Ext.token_Fold.f a0 t209).bind fun t218 => (if t218 = true then ((Ext.token_Fold.f t210 a0).bind fun t219 => (if t219 = true then ((Ext.token_Never.f a0).bind fun t220 => ((Ext.token_Never.f t209).bind fun t221 => (some (t220 == t221)))) else (some false))) else (some false))) else (some false))) else (some false)) else (some false))) else (some false)) else (some false)) = some r := H
          have A29 := Aside0.mk A290
          clear A290
          by_cases c30 : t215.toList = t208.toList
          · rw [if_pos c30] at H
            have c30b0 : (t215.toList == t208.toList) = true := beq_iff_eq.mpr c30
            have c30b1 : (t215.toList != t208.toList) = false := bne_eq_false_iff_eq.mpr c30
            clear c30
            by_cases c31 : (t208.size : Int) ≤ (a0.size : Int)
            · rw [if_pos c31] at H
              have c31b0 : decide ((t208.size : Int) ≤ (a0.size : Int)) = true := decide_eq_true c31
              have c31b1 : decide (t208.size ≤ a0.size) = true := decide_eq_true (Int.ofNat_le.mp c31)
              clear c31
              replace H := Option.bind_eq_some_iff.mp H
              obtain ⟨t216, A320, H⟩ := H
              replace H : (if t216.toList = t209.toList then (if (t209.size : Int) = (a0.size : Int) then ((token_Method.f kj5 t210).bind fun t217 => (if t217.toList = t210.toList then ((Ext.token_Fold.f a0 t209).bind fun t218 => (if t218 = true then ((Ext.token_Fold.f t210 a0).bind fun t219 => (if t219 = true then ((Ext.token_Never.f a0).bind fun t220 => ((Ext.token_Never.f t209).bind fun t221 => (some (t220 == t221)))) else (some false))) else (some false))) else (some false))) else (some false)) else (some false)) = some r := H
              have A32 := Aside0.mk A320
              clear A320
              by_cases c33 : t216.toList = t209.toList
              · rw [if_pos c33] at H
                have c33b0 : (t216.toList == t209.toList) = true := beq_iff_eq.mpr c33
                have c33b1 : (t216.toList != t209.toList) = false := bne_eq_false_iff_eq.mpr c33
                clear c33
                by_cases c34 : (t209.size : Int) = (a0.size : Int)
                · rw [if_pos c34] at H
                  have c34b0 : ((t209.size : Int) == (a0.size : Int)) = true := beq_iff_eq.mpr c34
                  have c34b1 : ((t209.size : Int) != (a0.size : Int)) = false := bne_eq_false_iff_eq.mpr c34
                  have c34b2 : (t209.size == a0.size) = true := by first | simpa using c34 | (simp at c34 ⊢; omega)
                  clear c34
                  replace H := Option.bind_eq_some_iff.mp H
                  obtain ⟨t217, A350, H⟩ := H
                  replace H : (if t217.toList = t210.toList then ((Ext.token_Fold.f a0 t209).bind fun t218 => (if t218 = true then ((Ext.token_Fold.f t210 a0).bind fun t219 => (if t219 = true then ((Ext.token_Never.f a0).bind fun t220 => ((Ext.token_Never.f t209).bind fun t221 => (some (t220 == t221)))) else (some false))) else (some false))) else (some false)) = some r := H
                  have A35 := Aside0.mk A350
                  clear A350
                  by_cases c36 : t217.toList = t210.toList
                  · rw [if_pos c36] at H
                    have c36b0 : (t217.toList == t210.toList) = true := beq_iff_eq.mpr c36
                    have c36b1 : (t217.toList != t210.toList) = false := bne_eq_false_iff_eq.mpr c36
                    clear c36
                    replace H := Option.bind_eq_some_iff.mp H
                    obtain ⟨t218, A370, H⟩ := H
                    replace H : (if t218 = true then ((Ext.token_Fold.f t210 a0).bind fun t219 => (if t219 = true then ((Ext.token_Never.f a0).bind fun t220 => ((Ext.token_Never.f t209).bind fun t221 => (some (t220 == t221)))) else (some false))) else (some false)) = some r := H
                    have A37 := Aside0.mk A370
                    clear A370
                    by_cases c38 : t218 = true
                    · subst c38
                      have H1 : ((Ext.token_Fold.f t210 a0).bind fun t219 => (if t219 = true then ((Ext.token_Never.f a0).bind fun t220 => ((Ext.token_Never.f t209).bind fun t221 => (some (t220 == t221)))) else (some false))) = some r := by rw [if_pos rfl] at H; exact H
                      clear H
                      have H := H1
                      clear H1
                      replace H := Option.bind_eq_some_iff.mp H
                      obtain ⟨t219, A390, H⟩ := H
                      replace H : (if t219 = true then ((Ext.token_Never.f a0).bind fun t220 => ((Ext.token_Never.f t209).bind fun t221 => (some (t220 == t221)))) else (some false)) = some r := H
                      have A39 := Aside0.mk A390
                      clear A390
                      by_cases c40 : t219 = true
                      · subst c40
                        have H1 : ((Ext.token_Never.f a0).bind fun t220 => ((Ext.token_Never.f t209).bind fun t221 => (some (t220 == t221)))) = some r := by rw [if_pos rfl] at H; exact H
                        clear H
                        have H := H1
                        clear H1
                        replace H := Option.bind_eq_some_iff.mp H
                        obtain ⟨t220, A410, H⟩ := H
                        replace H : ((Ext.token_Never.f t209).bind fun t221 => (some (t220 == t221))) = some r := H
                        have A41 := Aside0.mk A410
                        clear A410
                        replace H := Option.bind_eq_some_iff.mp H
                        obtain ⟨t221, A420, H⟩ := H
                        replace H : (some (t220 == t221)) = some r := H
                        have A42 := Aside0.mk A420
                        clear A420
                        obtain rfl := Option.some.inj H
                        go_wp2_with (first | (go_at_call 14; (with_reducible refine (token_Trim.calls t208 t215 _ A29.out).mono ?_); rintro e w43 ⟨rfl, hb⟩; have n0_ := Aside0.mk (below_step (by repeat (first | (with_reducible first | exact HB.out | apply below_alloc | apply pw_below_drewN | apply below_drew1) | exact HB.out)) hb); clear HB; have HB := n0_; clear n0_; (try clear hb); (try clear hb2); (try clear hk); (try clear hi)) | (go_at_call 16; (with_reducible refine (Ext.token_Lower.calls t209 t216 _ A32.out).mono ?_); rintro e w44 ⟨rfl, hb⟩; have n0_ := Aside0.mk (below_step (by repeat (first | (with_reducible first | exact HB.out | apply below_alloc | apply pw_below_drewN | apply below_drew1) | exact HB.out)) hb); clear HB; have HB := n0_; clear n0_; (try clear hb); (try clear hb2); (try clear hk); (try clear hi)) | (go_at_call 19; (with_reducible refine (token_Method.calls kj5 t210 t217 _ A35.out).mono ?_); rintro e w45 ⟨rfl, hb⟩; have n0_ := Aside0.mk (below_step (by repeat (first | (with_reducible first | exact HB.out | apply below_alloc | apply pw_below_drewN | apply below_drew1) | exact HB.out)) hb); clear HB; have HB := n0_; clear n0_; (try clear hb); (try clear hb2); (try clear hk); (try clear hi)) | (go_at_call 18; (with_reducible refine (Ext.token_Fold.calls a0 t209 true _ A37.out).mono ?_); rintro e w46 ⟨rfl, hb⟩; have n0_ := Aside0.mk (below_step (by repeat (first | (with_reducible first | exact HB.out | apply below_alloc | apply pw_below_drewN | apply below_drew1) | exact HB.out)) hb); clear HB; have HB := n0_; clear n0_; (try clear hb); (try clear hb2); (try clear hk); (try clear hi)) | (go_at_call 18; (with_reducible refine (Ext.token_Fold.calls t210 a0 true _ A39.out).mono ?_); rintro e w47 ⟨rfl, hb⟩; have n0_ := Aside0.mk (below_step (by repeat (first | (with_reducible first | exact HB.out | apply below_alloc | apply pw_below_drewN | apply below_drew1) | exact HB.out)) hb); clear HB; have HB := n0_; clear n0_; (try clear hb); (try clear hb2); (try clear hk); (try clear hi)) | (go_at_call 21; (with_reducible refine (Ext.token_Never.calls a0 t220 _ A41.out).mono ?_); rintro e w48 ⟨rfl, hb⟩; have n0_ := Aside0.mk (below_step (by repeat (first | (with_reducible first | exact HB.out | apply below_alloc | apply pw_below_drewN | apply below_drew1) | exact HB.out)) hb); clear HB; have HB := n0_; clear n0_; (try clear hb); (try clear hb2); (try clear hk); (try clear hi)) | (go_at_call 21; (with_reducible refine (Ext.token_Never.calls t209 t221 _ A42.out).mono ?_); rintro e w49 ⟨rfl, hb⟩; have n0_ := Aside0.mk (below_step (by repeat (first | (with_reducible first | exact HB.out | apply below_alloc | apply pw_below_drewN | apply below_drew1) | exact HB.out)) hb); clear HB; have HB := n0_; clear n0_; (try clear hb); (try clear hb2); (try clear hk); (try clear hi)))
                        all_goals go_ret
                        all_goals exact ⟨by first | rfl | (simp [errW_none, errW_some] <;> rfl) | (simp [*, errW_none, errW_some] <;> rfl), by repeat (first | (with_reducible first | exact HB.out | apply below_alloc | apply pw_below_drewN | apply below_drew1) | exact HB.out)⟩
                      · replace c40 := Bool.eq_false_iff.mpr c40
                        subst c40
                        have H1 : (some false) = some r := by rw [if_neg (show ¬ (false = true) by decide)] at H; exact H
                        clear H
                        have H := H1
                        clear H1
                        obtain rfl := Option.some.inj H
                        go_wp2_with (first | (go_at_call 14; (with_reducible refine (token_Trim.calls t208 t215 _ A29.out).mono ?_); rintro e w50 ⟨rfl, hb⟩; have n0_ := Aside0.mk (below_step (by repeat (first | (with_reducible first | exact HB.out | apply below_alloc | apply pw_below_drewN | apply below_drew1) | exact HB.out)) hb); clear HB; have HB := n0_; clear n0_; (try clear hb); (try clear hb2); (try clear hk); (try clear hi)) | (go_at_call 16; (with_reducible refine (Ext.token_Lower.calls t209 t216 _ A32.out).mono ?_); rintro e w51 ⟨rfl, hb⟩; have n0_ := Aside0.mk (below_step (by repeat (first | (with_reducible first | exact HB.out | apply below_alloc | apply pw_below_drewN | apply below_drew1) | exact HB.out)) hb); clear HB; have HB := n0_; clear n0_; (try clear hb); (try clear hb2); (try clear hk); (try clear hi)) | (go_at_call 19; (with_reducible refine (token_Method.calls kj5 t210 t217 _ A35.out).mono ?_); rintro e w52 ⟨rfl, hb⟩; have n0_ := Aside0.mk (below_step (by repeat (first | (with_reducible first | exact HB.out | apply below_alloc | apply pw_below_drewN | apply below_drew1) | exact HB.out)) hb); clear HB; have HB := n0_; clear n0_; (try clear hb); (try clear hb2); (try clear hk); (try clear hi)) | (go_at_call 18; (with_reducible refine (Ext.token_Fold.calls a0 t209 true _ A37.out).mono ?_); rintro e w53 ⟨rfl, hb⟩; have n0_ := Aside0.mk (below_step (by repeat (first | (with_reducible first | exact HB.out | apply below_alloc | apply pw_below_drewN | apply below_drew1) | exact HB.out)) hb); clear HB; have HB := n0_; clear n0_; (try clear hb); (try clear hb2); (try clear hk); (try clear hi)) | (go_at_call 18; (with_reducible refine (Ext.token_Fold.calls t210 a0 false _ A39.out).mono ?_); rintro e w54 ⟨rfl, hb⟩; have n0_ := Aside0.mk (below_step (by repeat (first | (with_reducible first | exact HB.out | apply below_alloc | apply pw_below_drewN | apply below_drew1) | exact HB.out)) hb); clear HB; have HB := n0_; clear n0_; (try clear hb); (try clear hb2); (try clear hk); (try clear hi)))
                        all_goals go_ret
                        all_goals exact ⟨by first | rfl | (simp [errW_none, errW_some] <;> rfl) | (simp [*, errW_none, errW_some] <;> rfl), by repeat (first | (with_reducible first | exact HB.out | apply below_alloc | apply pw_below_drewN | apply below_drew1) | exact HB.out)⟩
                    · replace c38 := Bool.eq_false_iff.mpr c38
                      subst c38
                      have H1 : (some false) = some r := by rw [if_neg (show ¬ (false = true) by decide)] at H; exact H
                      clear H
                      have H := H1
                      clear H1
                      obtain rfl := Option.some.inj H
                      go_wp2_with (first | (go_at_call 14; (with_reducible refine (token_Trim.calls t208 t215 _ A29.out).mono ?_); rintro e w55 ⟨rfl, hb⟩; have n0_ := Aside0.mk (below_step (by repeat (first | (with_reducible first | exact HB.out | apply below_alloc | apply pw_below_drewN | apply below_drew1) | exact HB.out)) hb); clear HB; have HB := n0_; clear n0_; (try clear hb); (try clear hb2); (try clear hk); (try clear hi)) | (go_at_call 16; (with_reducible refine (Ext.token_Lower.calls t209 t216 _ A32.out).mono ?_); rintro e w56 ⟨rfl, hb⟩; have n0_ := Aside0.mk (below_step (by repeat (first | (with_reducible first | exact HB.out | apply below_alloc | apply pw_below_drewN | apply below_drew1) | exact HB.out)) hb); clear HB; have HB := n0_; clear n0_; (try clear hb); (try clear hb2); (try clear hk); (try clear hi)) | (go_at_call 19; (with_reducible refine (token_Method.calls kj5 t210 t217 _ A35.out).mono ?_); rintro e w57 ⟨rfl, hb⟩; have n0_ := Aside0.mk (below_step (by repeat (first | (with_reducible first | exact HB.out | apply below_alloc | apply pw_below_drewN | apply below_drew1) | exact HB.out)) hb); clear HB; have HB := n0_; clear n0_; (try clear hb); (try clear hb2); (try clear hk); (try clear hi)) | (go_at_call 18; (with_reducible refine (Ext.token_Fold.calls a0 t209 false _ A37.out).mono ?_); rintro e w58 ⟨rfl, hb⟩; have n0_ := Aside0.mk (below_step (by repeat (first | (with_reducible first | exact HB.out | apply below_alloc | apply pw_below_drewN | apply below_drew1) | exact HB.out)) hb); clear HB; have HB := n0_; clear n0_; (try clear hb); (try clear hb2); (try clear hk); (try clear hi)))
                      all_goals go_ret
                      all_goals exact ⟨by first | rfl | (simp [errW_none, errW_some] <;> rfl) | (simp [*, errW_none, errW_some] <;> rfl), by repeat (first | (with_reducible first | exact HB.out | apply below_alloc | apply pw_below_drewN | apply below_drew1) | exact HB.out)⟩
                  · rw [if_neg c36] at H
                    have c36b0 : (t217.toList == t210.toList) = false := beq_eq_false_iff_ne.mpr c36
                    have c36b1 : (t217.toList != t210.toList) = true := bne_iff_ne.mpr c36
                    obtain rfl := Option.some.inj H
                    go_wp2_with (first | (go_at_call 14; (with_reducible refine (token_Trim.calls t208 t215 _ A29.out).mono ?_); rintro e w59 ⟨rfl, hb⟩; have n0_ := Aside0.mk (below_step (by repeat (first | (with_reducible first | exact HB.out | apply below_alloc | apply pw_below_drewN | apply below_drew1) | exact HB.out)) hb); clear HB; have HB := n0_; clear n0_; (try clear hb); (try clear hb2); (try clear hk); (try clear hi)) | (go_at_call 16; (with_reducible refine (Ext.token_Lower.calls t209 t216 _ A32.out).mono ?_); rintro e w60 ⟨rfl, hb⟩; have n0_ := Aside0.mk (below_step (by repeat (first | (with_reducible first | exact HB.out | apply below_alloc | apply pw_below_drewN | apply below_drew1) | exact HB.out)) hb); clear HB; have HB := n0_; clear n0_; (try clear hb); (try clear hb2); (try clear hk); (try clear hi)) | (go_at_call 19; (with_reducible refine (token_Method.calls kj5 t210 t217 _ A35.out).mono ?_); rintro e w61 ⟨rfl, hb⟩; have n0_ := Aside0.mk (below_step (by repeat (first | (with_reducible first | exact HB.out | apply below_alloc | apply pw_below_drewN | apply below_drew1) | exact HB.out)) hb); clear HB; have HB := n0_; clear n0_; (try clear hb); (try clear hb2); (try clear hk); (try clear hi)))
                    all_goals go_ret
                    all_goals exact ⟨by first | rfl | (simp [errW_none, errW_some] <;> rfl) | (simp [*, errW_none, errW_some] <;> rfl), by repeat (first | (with_reducible first | exact HB.out | apply below_alloc | apply pw_below_drewN | apply below_drew1) | exact HB.out)⟩
                · rw [if_neg c34] at H
                  have c34b0 : ((t209.size : Int) == (a0.size : Int)) = false := beq_eq_false_iff_ne.mpr c34
                  have c34b1 : ((t209.size : Int) != (a0.size : Int)) = true := bne_iff_ne.mpr c34
                  have c34b2 : (t209.size == a0.size) = false := by first | simpa using c34 | (simp at c34 ⊢; omega)
                  obtain rfl := Option.some.inj H
                  go_wp2_with (first | (go_at_call 14; (with_reducible refine (token_Trim.calls t208 t215 _ A29.out).mono ?_); rintro e w62 ⟨rfl, hb⟩; have n0_ := Aside0.mk (below_step (by repeat (first | (with_reducible first | exact HB.out | apply below_alloc | apply pw_below_drewN | apply below_drew1) | exact HB.out)) hb); clear HB; have HB := n0_; clear n0_; (try clear hb); (try clear hb2); (try clear hk); (try clear hi)) | (go_at_call 16; (with_reducible refine (Ext.token_Lower.calls t209 t216 _ A32.out).mono ?_); rintro e w63 ⟨rfl, hb⟩; have n0_ := Aside0.mk (below_step (by repeat (first | (with_reducible first | exact HB.out | apply below_alloc | apply pw_below_drewN | apply below_drew1) | exact HB.out)) hb); clear HB; have HB := n0_; clear n0_; (try clear hb); (try clear hb2); (try clear hk); (try clear hi)))
                  all_goals go_ret
                  all_goals exact ⟨by first | rfl | (simp [errW_none, errW_some] <;> rfl) | (simp [*, errW_none, errW_some] <;> rfl), by repeat (first | (with_reducible first | exact HB.out | apply below_alloc | apply pw_below_drewN | apply below_drew1) | exact HB.out)⟩
              · rw [if_neg c33] at H
                have c33b0 : (t216.toList == t209.toList) = false := beq_eq_false_iff_ne.mpr c33
                have c33b1 : (t216.toList != t209.toList) = true := bne_iff_ne.mpr c33
                obtain rfl := Option.some.inj H
                go_wp2_with (first | (go_at_call 14; (with_reducible refine (token_Trim.calls t208 t215 _ A29.out).mono ?_); rintro e w64 ⟨rfl, hb⟩; have n0_ := Aside0.mk (below_step (by repeat (first | (with_reducible first | exact HB.out | apply below_alloc | apply pw_below_drewN | apply below_drew1) | exact HB.out)) hb); clear HB; have HB := n0_; clear n0_; (try clear hb); (try clear hb2); (try clear hk); (try clear hi)) | (go_at_call 16; (with_reducible refine (Ext.token_Lower.calls t209 t216 _ A32.out).mono ?_); rintro e w65 ⟨rfl, hb⟩; have n0_ := Aside0.mk (below_step (by repeat (first | (with_reducible first | exact HB.out | apply below_alloc | apply pw_below_drewN | apply below_drew1) | exact HB.out)) hb); clear HB; have HB := n0_; clear n0_; (try clear hb); (try clear hb2); (try clear hk); (try clear hi)))
                all_goals go_ret
                all_goals exact ⟨by first | rfl | (simp [errW_none, errW_some] <;> rfl) | (simp [*, errW_none, errW_some] <;> rfl), by repeat (first | (with_reducible first | exact HB.out | apply below_alloc | apply pw_below_drewN | apply below_drew1) | exact HB.out)⟩
            · rw [if_neg c31] at H
              have c31b0 : decide ((t208.size : Int) ≤ (a0.size : Int)) = false := decide_eq_false c31
              have c31b1 : decide (t208.size ≤ a0.size) = false := decide_eq_false (fun h => c31 (Int.ofNat_le.mpr h))
              clear c31
              obtain rfl := Option.some.inj H
              go_wp2_with (first | (go_at_call 14; (with_reducible refine (token_Trim.calls t208 t215 _ A29.out).mono ?_); rintro e w66 ⟨rfl, hb⟩; have n0_ := Aside0.mk (below_step (by repeat (first | (with_reducible first | exact HB.out | apply below_alloc | apply pw_below_drewN | apply below_drew1) | exact HB.out)) hb); clear HB; have HB := n0_; clear n0_; (try clear hb); (try clear hb2); (try clear hk); (try clear hi)))
              all_goals go_ret
              all_goals exact ⟨by first | rfl | (simp [errW_none, errW_some] <;> rfl) | (simp [*, errW_none, errW_some] <;> rfl), by repeat (first | (with_reducible first | exact HB.out | apply below_alloc | apply pw_below_drewN | apply below_drew1) | exact HB.out)⟩
          · rw [if_neg c30] at H
            have c30b0 : (t215.toList == t208.toList) = false := beq_eq_false_iff_ne.mpr c30
            have c30b1 : (t215.toList != t208.toList) = true := bne_iff_ne.mpr c30
            obtain rfl := Option.some.inj H
            go_wp2_with (first | (go_at_call 14; (with_reducible refine (token_Trim.calls t208 t215 _ A29.out).mono ?_); rintro e w67 ⟨rfl, hb⟩; have n0_ := Aside0.mk (below_step (by repeat (first | (with_reducible first | exact HB.out | apply below_alloc | apply pw_below_drewN | apply below_drew1) | exact HB.out)) hb); clear HB; have HB := n0_; clear n0_; (try clear hb); (try clear hb2); (try clear hk); (try clear hi)))
            all_goals go_ret
            all_goals exact ⟨by first | rfl | (simp [errW_none, errW_some] <;> rfl) | (simp [*, errW_none, errW_some] <;> rfl), by repeat (first | (with_reducible first | exact HB.out | apply below_alloc | apply pw_below_drewN | apply below_drew1) | exact HB.out)⟩
        · replace c28 := Bool.eq_false_iff.mpr c28
          subst c28
          have H1 : (some false) = some r := by rw [if_neg (show ¬ (false = true) by decide)] at H; exact H
          clear H
          have H := H1
          clear H1
          obtain rfl := Option.some.inj H
          go_wp2
          all_goals go_ret
          all_goals exact ⟨by first | rfl | (simp [errW_none, errW_some] <;> rfl) | (simp [*, errW_none, errW_some] <;> rfl), by repeat (first | (with_reducible first | exact HB.out | apply below_alloc | apply pw_below_drewN | apply below_drew1) | exact HB.out)⟩

/-! ### transeptlaw09_TokenCuts: function 6 -/
mutual
def transeptlaw09_TokenCuts.l0 : Nat → ByteArray → Bool → Int → Option (Bool)
  | 0, _, _, _ => none
  | k + 1, x0, x3, x4 => if x4 < (x0.size : Int) then (if 0 ≤ x4 then (if (bt x0 x4) = 34 then (some x3) else (transeptlaw09_TokenCuts.l0 k x0 x3 (wrap64 (x4 + 1)))) else (none)) else ((token_Parts.f k x0).bind fun t223 => (transeptlaw09_TokenCuts.l1 k x0 x3 t223 (⟨#[]⟩ : ByteArray) 0 0))
def transeptlaw09_TokenCuts.l1 : Nat → ByteArray → Bool → List ByteArray → ByteArray → Int → Int → Option (Bool)
  | 0, _, _, _, _, _, _ => none
  | k + 1, x0, x3, x5, x6, x7, x8 => if x8 < (x5.length : Int) then (if x8 > 0 then (if x6.size + 1 ≤ 9223372036854775807 then (if 0 ≤ x8 then (if (x6 ++ (⟨#[44]⟩ : ByteArray)).size + (rdOf ByteArray.empty x5 x8).size ≤ 9223372036854775807 then (transeptlaw09_TokenCuts.l1 k x0 x3 x5 ((x6 ++ (⟨#[44]⟩ : ByteArray)) ++ (rdOf ByteArray.empty x5 x8)) x7 (wrap64 (x8 + 1))) else (none)) else (none)) else (none)) else (if 0 ≤ x8 then (if x6.size + (rdOf ByteArray.empty x5 x8).size ≤ 9223372036854775807 then (transeptlaw09_TokenCuts.l1 k x0 x3 x5 (x6 ++ (rdOf ByteArray.empty x5 x8)) x7 (wrap64 (x8 + 1))) else (none)) else (none))) else (transeptlaw09_TokenCuts.l2 k x0 x3 x5 x6 x7 0)
def transeptlaw09_TokenCuts.l2 : Nat → ByteArray → Bool → List ByteArray → ByteArray → Int → Int → Option (Bool)
  | 0, _, _, _, _, _, _ => none
  | k + 1, x0, x3, x5, x6, x7, x9 => if x9 < (x0.size : Int) then (if 0 ≤ x9 then (if (bt x0 x9) = 44 then (transeptlaw09_TokenCuts.l2 k x0 x3 x5 x6 (wrap64 (x7 + 1)) (wrap64 (x9 + 1))) else (transeptlaw09_TokenCuts.l2 k x0 x3 x5 x6 x7 (wrap64 (x9 + 1)))) else (none)) else (if x3 = true then (if (x5.length : Int) = (wrap64 (x7 + 1)) then ((token_Parts.f k x6).bind fun t228 => ((transeptref09_Same.f k t228 x5).bind fun t231 => (some t231))) else (some false)) else (some false))
end
def transeptlaw09_TokenCuts.f (k : Nat) (a0 : ByteArray) : Option (Bool) := (transeptlaw09_shown.f k).bind fun t222 => (transeptlaw09_TokenCuts.l0 k a0 t222 0)
theorem transeptlaw09_TokenCuts.mono_l : ∀ k, (∀ y0 y1 y2, LeO (transeptlaw09_TokenCuts.l0 k y0 y1 y2) (transeptlaw09_TokenCuts.l0 (k + 1) y0 y1 y2)) ∧ (∀ y0 y1 y2 y3 y4 y5, LeO (transeptlaw09_TokenCuts.l1 k y0 y1 y2 y3 y4 y5) (transeptlaw09_TokenCuts.l1 (k + 1) y0 y1 y2 y3 y4 y5)) ∧ (∀ y0 y1 y2 y3 y4 y5, LeO (transeptlaw09_TokenCuts.l2 k y0 y1 y2 y3 y4 y5) (transeptlaw09_TokenCuts.l2 (k + 1) y0 y1 y2 y3 y4 y5))
  | 0 => ⟨fun _ _ _ r h => by simp [transeptlaw09_TokenCuts.l0] at h, fun _ _ _ _ _ _ r h => by simp [transeptlaw09_TokenCuts.l1] at h, fun _ _ _ _ _ _ r h => by simp [transeptlaw09_TokenCuts.l2] at h⟩
  | k + 1 => by
    obtain ⟨ih0, ih1, ih2⟩ := transeptlaw09_TokenCuts.mono_l k
    refine ⟨?_, ?_, ?_⟩
    · intro y0 y1 y2
      unfold transeptlaw09_TokenCuts.l0
      repeat' first
      | (with_reducible exact ih0 _ _ _)
      | (with_reducible exact ih1 _ _ _ _ _ _)
      | (with_reducible exact ih2 _ _ _ _ _ _)
      | (with_reducible exact token_Parts.mono _ _)
      | (with_reducible exact transeptlaw09_shown.mono _)
      | (with_reducible exact transeptref09_Same.mono _ _ _)
      | (with_reducible exact LeO.refl _)
      | (with_reducible exact LeO.none _)
      | (with_reducible refine LeO.ite ?_ ?_)
      | (with_reducible refine LeO.bind ?_ (fun _ => ?_))
      | exact ih0 _ _ _
      | exact ih1 _ _ _ _ _ _
      | exact ih2 _ _ _ _ _ _
      | exact token_Parts.mono _ _
      | exact transeptlaw09_shown.mono _
      | exact transeptref09_Same.mono _ _ _
      | exact LeO.none _
      | refine LeO.ite ?_ ?_
      | refine LeO.bind ?_ (fun _ => ?_)
    · intro y0 y1 y2 y3 y4 y5
      unfold transeptlaw09_TokenCuts.l1
      repeat' first
      | (with_reducible exact ih0 _ _ _)
      | (with_reducible exact ih1 _ _ _ _ _ _)
      | (with_reducible exact ih2 _ _ _ _ _ _)
      | (with_reducible exact token_Parts.mono _ _)
      | (with_reducible exact transeptlaw09_shown.mono _)
      | (with_reducible exact transeptref09_Same.mono _ _ _)
      | (with_reducible exact LeO.refl _)
      | (with_reducible exact LeO.none _)
      | (with_reducible refine LeO.ite ?_ ?_)
      | (with_reducible refine LeO.bind ?_ (fun _ => ?_))
      | exact ih0 _ _ _
      | exact ih1 _ _ _ _ _ _
      | exact ih2 _ _ _ _ _ _
      | exact token_Parts.mono _ _
      | exact transeptlaw09_shown.mono _
      | exact transeptref09_Same.mono _ _ _
      | exact LeO.none _
      | refine LeO.ite ?_ ?_
      | refine LeO.bind ?_ (fun _ => ?_)
    · intro y0 y1 y2 y3 y4 y5
      unfold transeptlaw09_TokenCuts.l2
      repeat' first
      | (with_reducible exact ih0 _ _ _)
      | (with_reducible exact ih1 _ _ _ _ _ _)
      | (with_reducible exact ih2 _ _ _ _ _ _)
      | (with_reducible exact token_Parts.mono _ _)
      | (with_reducible exact transeptlaw09_shown.mono _)
      | (with_reducible exact transeptref09_Same.mono _ _ _)
      | (with_reducible exact LeO.refl _)
      | (with_reducible exact LeO.none _)
      | (with_reducible refine LeO.ite ?_ ?_)
      | (with_reducible refine LeO.bind ?_ (fun _ => ?_))
      | exact ih0 _ _ _
      | exact ih1 _ _ _ _ _ _
      | exact ih2 _ _ _ _ _ _
      | exact token_Parts.mono _ _
      | exact transeptlaw09_shown.mono _
      | exact transeptref09_Same.mono _ _ _
      | exact LeO.none _
      | refine LeO.ite ?_ ?_
      | refine LeO.bind ?_ (fun _ => ?_)
theorem transeptlaw09_TokenCuts.mono : ∀ a0 k, LeO (transeptlaw09_TokenCuts.f k a0) (transeptlaw09_TokenCuts.f (k + 1) a0) := by
  intro a0 k
  obtain ⟨ih0, ih1, ih2⟩ := transeptlaw09_TokenCuts.mono_l k
  unfold transeptlaw09_TokenCuts.f
  repeat' first
      | (with_reducible exact ih0 _ _ _)
      | (with_reducible exact ih1 _ _ _ _ _ _)
      | (with_reducible exact ih2 _ _ _ _ _ _)
      | (with_reducible exact token_Parts.mono _ _)
      | (with_reducible exact transeptlaw09_shown.mono _)
      | (with_reducible exact transeptref09_Same.mono _ _ _)
      | (with_reducible exact LeO.refl _)
      | (with_reducible exact LeO.none _)
      | (with_reducible refine LeO.ite ?_ ?_)
      | (with_reducible refine LeO.bind ?_ (fun _ => ?_))
      | exact ih0 _ _ _
      | exact ih1 _ _ _ _ _ _
      | exact ih2 _ _ _ _ _ _
      | exact token_Parts.mono _ _
      | exact transeptlaw09_shown.mono _
      | exact transeptref09_Same.mono _ _ _
      | exact LeO.none _
      | refine LeO.ite ?_ ?_
      | refine LeO.bind ?_ (fun _ => ?_)
set_option maxHeartbeats 8000000 in
set_option maxRecDepth 100000 in
theorem transeptlaw09_TokenCuts.calls (k : Nat) (a0 : ByteArray) (r : Bool) (w : World) (hT : Ext.Tabs w) (h : transeptlaw09_TokenCuts.f k a0 = some r) :
    Calls Tryd.prog 6 #[.string a0] w fun e w' => e = .returned (.bool r) ∧ Below w.heap.size w w' := by
  have HB := Aside0.mk (Below.refl w.heap.size w)
  have HT := Aside0.mk hT
  clear hT
  have H : ((transeptlaw09_shown.f k).bind fun t222 => (transeptlaw09_TokenCuts.l0 k a0 t222 0)) = some r := h
  clear h
  replace H := Option.bind_eq_some_iff.mp H
  obtain ⟨t222, A20, H⟩ := H
  replace H : (transeptlaw09_TokenCuts.l0 k a0 t222 0) = some r := H
  have A2 := Aside0.mk A20
  clear A20
  have H' := Aside0.mk H
  clear H
  go_enter Tryd.func6, Tryd.ntmps6
  go_wp2_with (first | ((with_reducible refine gate_callee (f := 9) rfl ?_); refine goesL_ (some 10) rfl rfl Tryd.func9 (by kernel_rfl) rfl #[] rfl (by (try simp only [List.map_toArray, List.map_cons, List.map_nil]); first | done | rfl | (simp only [List.length_drop, List.length_take]; rfl)) ?_; (with_reducible refine (transeptlaw09_shown.calls k  t222 _ ?side1 A2.out).mono ?_); (case side1 => exact Ext.tabs_at HT.out (by repeat (first | (with_reducible first | exact HB.out | apply below_alloc | apply pw_below_drewN | apply below_drew1) | exact HB.out))); rintro e w3 ⟨rfl, hb⟩; refine ⟨_, rfl, ?_⟩; have n0_ := Aside0.mk (below_step (by repeat (first | (with_reducible first | exact HB.out | apply below_alloc | apply pw_below_drewN | apply below_drew1) | exact HB.out)) hb); clear HB; have HB := n0_; clear n0_; (try clear hb); (try clear hb2); (try clear hk); (try clear hi)))
  go_loopg [4] k (fun kq v4 w' => ∃ (x4_1 : Int), v4 = .int .i64 x4_1 ∧ Aside0 (transeptlaw09_TokenCuts.l0 kq a0 t222 x4_1 = some r) ∧ Aside0 (kq ≤ k) ∧ Aside0 (Below w.heap.size w w'))
  case atStart => exact ⟨(0), (by first | rfl | (simp; done) | (simp [*]; done)), H', ⟨Nat.le_refl _⟩, ⟨by repeat (first | (with_reducible first | exact HB.out | apply below_alloc | apply pw_below_drewN | apply below_drew1) | exact HB.out)⟩⟩
  case round =>
    clear H'
    try clear p2
    obtain ⟨x4_1, rfl, HA, HK1, HB⟩ := hrel
    cases gk with
    | zero => exact absurd HA.out (by simp [transeptlaw09_TokenCuts.l0])
    | succ k1 =>
      have H := HA.out
      clear HA
      simp only [transeptlaw09_TokenCuts.l0] at H
      by_cases c4 : x4_1 < (a0.size : Int)
      · rw [if_pos c4] at H
        have c4b0 : decide (x4_1 < (a0.size : Int)) = true := decide_eq_true c4
        clear c4
        by_cases c5 : 0 ≤ x4_1
        · rw [if_pos c5] at H
          have c5b0 : decide (0 ≤ x4_1) = true := decide_eq_true c5
          clear c5
          by_cases c7 : (bt a0 x4_1) = 34
          · rw [if_pos c7] at H
            have c7b0 : ((bt a0 x4_1) == 34) = true := beq_iff_eq.mpr c7
            have c7b1 : ((bt a0 x4_1) != 34) = false := bne_eq_false_iff_eq.mpr c7
            clear c7
            obtain rfl := Option.some.inj H
            have p6 : 0 ≤ (x4_1 : Int) := of_decide_eq_true (by first | (with_reducible assumption) | assumption)
            have q6 : x4_1 < (a0.size : Int) := of_decide_eq_true (by first | (with_reducible assumption) | assumption)
            have hx6 := bt_at a0 x4_1
            replace p6 := eq_true p6
            replace q6 := eq_true q6
            go_wp2
            all_goals go_ret
            all_goals exact ⟨by first | rfl | (simp [errW_none, errW_some] <;> rfl) | (simp [*, errW_none, errW_some] <;> rfl), by repeat (first | (with_reducible first | exact HB.out | apply below_alloc | apply pw_below_drewN | apply below_drew1) | exact HB.out)⟩
          · rw [if_neg c7] at H
            have c7b0 : ((bt a0 x4_1) == 34) = false := beq_eq_false_iff_ne.mpr c7
            have c7b1 : ((bt a0 x4_1) != 34) = true := bne_iff_ne.mpr c7
            have H' := Aside0.mk H
            clear H
            have p6 : 0 ≤ (x4_1 : Int) := of_decide_eq_true (by first | (with_reducible assumption) | assumption)
            have q6 : x4_1 < (a0.size : Int) := of_decide_eq_true (by first | (with_reducible assumption) | assumption)
            have hx6 := bt_at a0 x4_1
            replace p6 := eq_true p6
            replace q6 := eq_true q6
            go_wp2
            go_roundg k1
            case measure => have := HK1.out; omega
            case rel => exact ⟨(wrap64 (x4_1 + 1)), (by first | rfl | (simp; done) | (simp [*]; done)), H', ⟨by have := HK1.out; omega⟩, ⟨by repeat (first | (with_reducible first | exact HB.out | apply below_alloc | apply pw_below_drewN | apply below_drew1) | exact HB.out)⟩⟩
        · rw [if_neg c5] at H
          exact absurd H (by simp)
      · rw [if_neg c4] at H
        have c4b0 : decide (x4_1 < (a0.size : Int)) = false := decide_eq_false c4
        clear c4
        replace H := Option.bind_eq_some_iff.mp H
        obtain ⟨t223, A80, H⟩ := H
        replace H : (transeptlaw09_TokenCuts.l1 k1 a0 t222 t223 (⟨#[]⟩ : ByteArray) 0 0) = some r := H
        have A8 := Aside0.mk A80
        clear A80
        have H' := Aside0.mk H
        clear H
        go_wp2_with (first | ((with_reducible refine gate_callee (f := 24) rfl ?_); refine goesL_ (some 23) rfl rfl Tryd.func24 (by kernel_rfl) rfl #[.string a0] rfl (by (try simp only [List.map_toArray, List.map_cons, List.map_nil]); first | done | rfl | (simp only [List.length_drop, List.length_take]; rfl)) ?_; (with_reducible refine (token_Parts.calls k1 a0 t223 _ A8.out).mono ?_); rintro e w9 ⟨v224, rfl, ho0, hb⟩; refine ⟨_, rfl, ?_⟩; have n0_ := Aside0.mk (Kd.R_lower ho0 (below_size (by repeat (first | (with_reducible first | exact HB.out | apply below_alloc | apply pw_below_drewN | apply below_drew1) | exact HB.out)))); have n1_ := Aside0.mk (below_step (by repeat (first | (with_reducible first | exact HB.out | apply below_alloc | apply pw_below_drewN | apply below_drew1) | exact HB.out)) hb); clear HB; have HO225 := n0_; have HB := n1_; clear n0_ n1_; (try clear hb); (try clear hb2); (try clear hk); (try clear hi); (try clear ho0)))
        go_loopg [6, 8] k1 (fun kq v6 v8 w' => ∃ (x6_2 : ByteArray) (x8_2 : Int), v6 = .string x6_2 ∧ v8 = .int .i64 x8_2 ∧ Aside0 (transeptlaw09_TokenCuts.l1 kq a0 t222 t223 x6_2 0 x8_2 = some r) ∧ Aside0 (kq ≤ k1) ∧ Aside0 (Kd.R Kd.string 9 w' w.heap.size (fun _ => True) v224 t223) ∧ Aside0 (Below w.heap.size w w'))
        case atStart => exact ⟨((⟨#[]⟩ : ByteArray)), (0), (by first | rfl | (simp; done) | (simp [*]; done)), (by first | rfl | (simp; done) | (simp [*]; done)), H', ⟨Nat.le_refl _⟩, ⟨by (with_reducible repeat (first | apply Kd.R_alloc | apply Kd.R_drewN | apply Kd.R_drew)); exact HO225.out⟩, ⟨by repeat (first | (with_reducible first | exact HB.out | apply below_alloc | apply pw_below_drewN | apply below_drew1) | exact HB.out)⟩⟩
        case round =>
          clear H'
          try clear c2
          try clear p2
          try clear c4
          try clear c4b0
          try clear c5
          try clear c5b0
          try clear c6
          try clear p6
          try clear q6
          try clear hx6
          try clear c7
          try clear c7b0
          try clear c7b1
          try clear c9
          try clear p2
          try clear p6
          try clear q6
          obtain ⟨x6_2, x8_2, rfl, rfl, HA, HK2, HO_5, HB⟩ := hrel
          cases gk with
          | zero => exact absurd HA.out (by simp [transeptlaw09_TokenCuts.l1])
          | succ k2 =>
            have H := HA.out
            clear HA
            simp only [transeptlaw09_TokenCuts.l1] at H
            by_cases c10 : x8_2 < (t223.length : Int)
            · rw [if_pos c10] at H
              have c10b0 : decide (x8_2 < (t223.length : Int)) = true := decide_eq_true c10
              clear c10
              by_cases c11 : x8_2 > 0
              · rw [if_pos c11] at H
                have c11b0 : decide (0 < x8_2) = true := decide_eq_true c11
                clear c11
                by_cases c12 : x6_2.size + 1 ≤ 9223372036854775807
                · rw [if_pos c12] at H
                  have c12b0 := eq_true c12
                  have c12b1 : decide (x6_2.size + 1 ≤ 9223372036854775807) = true := decide_eq_true c12
                  try have c12b2 : (9223372036854775807 < x6_2.size + 1) = False := eq_false (Nat.not_lt.2 c12)
                  by_cases c13 : 0 ≤ x8_2
                  · rw [if_pos c13] at H
                    have c13b0 : decide (0 ≤ x8_2) = true := decide_eq_true c13
                    clear c13
                    by_cases c14 : (x6_2 ++ (⟨#[44]⟩ : ByteArray)).size + (rdOf ByteArray.empty t223 x8_2).size ≤ 9223372036854775807
                    · rw [if_pos c14] at H
                      have c14b0 := eq_true c14
                      have c14b1 : decide ((x6_2 ++ (⟨#[44]⟩ : ByteArray)).size + (rdOf ByteArray.empty t223 x8_2).size ≤ 9223372036854775807) = true := decide_eq_true c14
                      try have c14b2 : (9223372036854775807 < (x6_2 ++ (⟨#[44]⟩ : ByteArray)).size + (rdOf ByteArray.empty t223 x8_2).size) = False := eq_false (Nat.not_lt.2 c14)
                      have H' := Aside0.mk H
                      clear H
                      obtain ⟨Ao15, co15, eo15⟩ := Kd.R_slice HO_5.out
                      subst eo15
                      have p226 : 0 ≤ (x8_2 : Int) := of_decide_eq_true (by first | (with_reducible assumption) | assumption)
                      have q226 : x8_2 < (t223.length : Int) := of_decide_eq_true (by first | (with_reducible assumption) | assumption)
                      obtain ⟨ad226, e226, hx226_0⟩ := Kd.at_string (Kd.R_reads' HO_5.out).2.2 x8_2 p226 q226
                      cases e226
                      replace p226 := eq_true p226
                      replace q226 := eq_true q226
                      go_wp2
                      go_roundg k2
                      case measure => have := HK1.out; have := HK2.out; omega
                      case rel => exact ⟨((x6_2 ++ (⟨#[44]⟩ : ByteArray)) ++ (rdOf ByteArray.empty t223 x8_2)), (wrap64 (x8_2 + 1)), (by first | rfl | (simp; done) | (simp [*]; done)), (by first | rfl | (simp; done) | (simp [*]; done)), H', ⟨by have := HK1.out; have := HK2.out; omega⟩, ⟨by (with_reducible repeat (first | apply Kd.R_alloc | apply Kd.R_drewN | apply Kd.R_drew)); exact HO_5.out⟩, ⟨by repeat (first | (with_reducible first | exact HB.out | apply below_alloc | apply pw_below_drewN | apply below_drew1) | exact HB.out)⟩⟩
                    · rw [if_neg c14] at H
                      exact absurd H (by simp)
                  · rw [if_neg c13] at H
                    exact absurd H (by simp)
                · rw [if_neg c12] at H
                  exact absurd H (by simp)
              · rw [if_neg c11] at H
                have c11b0 : decide (0 < x8_2) = false := decide_eq_false c11
                clear c11
                by_cases c16 : 0 ≤ x8_2
                · rw [if_pos c16] at H
                  have c16b0 : decide (0 ≤ x8_2) = true := decide_eq_true c16
                  clear c16
                  by_cases c17 : x6_2.size + (rdOf ByteArray.empty t223 x8_2).size ≤ 9223372036854775807
                  · rw [if_pos c17] at H
                    have c17b0 := eq_true c17
                    have c17b1 : decide (x6_2.size + (rdOf ByteArray.empty t223 x8_2).size ≤ 9223372036854775807) = true := decide_eq_true c17
                    try have c17b2 : (9223372036854775807 < x6_2.size + (rdOf ByteArray.empty t223 x8_2).size) = False := eq_false (Nat.not_lt.2 c17)
                    have H' := Aside0.mk H
                    clear H
                    obtain ⟨Ao18, co18, eo18⟩ := Kd.R_slice HO_5.out
                    subst eo18
                    have p227 : 0 ≤ (x8_2 : Int) := of_decide_eq_true (by first | (with_reducible assumption) | assumption)
                    have q227 : x8_2 < (t223.length : Int) := of_decide_eq_true (by first | (with_reducible assumption) | assumption)
                    obtain ⟨ad227, e227, hx227_0⟩ := Kd.at_string (Kd.R_reads' HO_5.out).2.2 x8_2 p227 q227
                    cases e227
                    replace p227 := eq_true p227
                    replace q227 := eq_true q227
                    go_wp2
                    go_roundg k2
                    case measure => have := HK1.out; have := HK2.out; omega
                    case rel => exact ⟨(x6_2 ++ (rdOf ByteArray.empty t223 x8_2)), (wrap64 (x8_2 + 1)), (by first | rfl | (simp; done) | (simp [*]; done)), (by first | rfl | (simp; done) | (simp [*]; done)), H', ⟨by have := HK1.out; have := HK2.out; omega⟩, ⟨by (with_reducible repeat (first | apply Kd.R_alloc | apply Kd.R_drewN | apply Kd.R_drew)); exact HO_5.out⟩, ⟨by repeat (first | (with_reducible first | exact HB.out | apply below_alloc | apply pw_below_drewN | apply below_drew1) | exact HB.out)⟩⟩
                  · rw [if_neg c17] at H
                    exact absurd H (by simp)
                · rw [if_neg c16] at H
                  exact absurd H (by simp)
            · rw [if_neg c10] at H
              have c10b0 : decide (x8_2 < (t223.length : Int)) = false := decide_eq_false c10
              clear c10
              have H' := Aside0.mk H
              clear H
              obtain ⟨Ao19, co19, eo19⟩ := Kd.R_slice HO_5.out
              subst eo19
              go_wp2
              go_loopg [7, 9] k2 (fun kq v7 v9 w' => ∃ (x7_3 : Int) (x9_3 : Int), v7 = .int .i64 x7_3 ∧ v9 = .int .i64 x9_3 ∧ Aside0 (transeptlaw09_TokenCuts.l2 kq a0 t222 t223 x6_2 x7_3 x9_3 = some r) ∧ Aside0 (kq ≤ k2) ∧ Aside0 (Kd.R Kd.string 9 w' w.heap.size (fun _ => True) (.slice Ao19 t223.length co19) t223) ∧ Aside0 (Below w.heap.size w w'))
              case atStart => exact ⟨(0), (0), (by first | rfl | (simp; done) | (simp [*]; done)), (by first | rfl | (simp; done) | (simp [*]; done)), H', ⟨Nat.le_refl _⟩, ⟨by (with_reducible repeat (first | apply Kd.R_alloc | apply Kd.R_drewN | apply Kd.R_drew)); exact HO_5.out⟩, ⟨by repeat (first | (with_reducible first | exact HB.out | apply below_alloc | apply pw_below_drewN | apply below_drew1) | exact HB.out)⟩⟩
              case round =>
                clear H'
                try clear c1
                try clear c2
                try clear p2
                try clear q2
                try clear hx2
                try clear c4
                try clear c4b0
                try clear c5
                try clear c5b0
                try clear c6
                try clear p6
                try clear q6
                try clear hx6
                try clear c7
                try clear c7b0
                try clear c7b1
                try clear c9
                try clear c10
                try clear c10b0
                try clear c11
                try clear c11b0
                try clear c12
                try clear c12b0
                try clear c12b1
                try clear c12b2
                try clear c13
                try clear c13b0
                try clear c14
                try clear c14b0
                try clear c14b1
                try clear c14b2
                try clear c16
                try clear c16b0
                try clear c17
                try clear c17b0
                try clear c17b1
                try clear c17b2
                try clear hx226_0
                try clear hx227_0
                try clear p2
                try clear p226
                try clear p227
                try clear p6
                try clear q226
                try clear q227
                try clear q6
                obtain ⟨x7_3, x9_3, rfl, rfl, HA, HK3, HO_5, HB⟩ := hrel
                cases gk with
                | zero => exact absurd HA.out (by simp [transeptlaw09_TokenCuts.l2])
                | succ k3 =>
                  have H := HA.out
                  clear HA
                  simp only [transeptlaw09_TokenCuts.l2] at H
                  by_cases c20 : x9_3 < (a0.size : Int)
                  · rw [if_pos c20] at H
                    have c20b0 : decide (x9_3 < (a0.size : Int)) = true := decide_eq_true c20
                    clear c20
                    by_cases c21 : 0 ≤ x9_3
                    · rw [if_pos c21] at H
                      have c21b0 : decide (0 ≤ x9_3) = true := decide_eq_true c21
                      clear c21
                      by_cases c23 : (bt a0 x9_3) = 44
                      · rw [if_pos c23] at H
                        have c23b0 : ((bt a0 x9_3) == 44) = true := beq_iff_eq.mpr c23
                        have c23b1 : ((bt a0 x9_3) != 44) = false := bne_eq_false_iff_eq.mpr c23
                        clear c23
                        have H' := Aside0.mk H
                        clear H
                        have p22 : 0 ≤ (x9_3 : Int) := of_decide_eq_true (by first | (with_reducible assumption) | assumption)
                        have q22 : x9_3 < (a0.size : Int) := of_decide_eq_true (by first | (with_reducible assumption) | assumption)
                        have hx22 := bt_at a0 x9_3
                        replace p22 := eq_true p22
                        replace q22 := eq_true q22
                        go_wp2
                        go_roundg k3
                        case measure => have := HK1.out; have := HK2.out; have := HK3.out; omega
                        case rel => exact ⟨(wrap64 (x7_3 + 1)), (wrap64 (x9_3 + 1)), (by first | rfl | (simp; done) | (simp [*]; done)), (by first | rfl | (simp; done) | (simp [*]; done)), H', ⟨by have := HK1.out; have := HK2.out; have := HK3.out; omega⟩, ⟨by (with_reducible repeat (first | apply Kd.R_alloc | apply Kd.R_drewN | apply Kd.R_drew)); exact HO_5.out⟩, ⟨by repeat (first | (with_reducible first | exact HB.out | apply below_alloc | apply pw_below_drewN | apply below_drew1) | exact HB.out)⟩⟩
                      · rw [if_neg c23] at H
                        have c23b0 : ((bt a0 x9_3) == 44) = false := beq_eq_false_iff_ne.mpr c23
                        have c23b1 : ((bt a0 x9_3) != 44) = true := bne_iff_ne.mpr c23
                        have H' := Aside0.mk H
                        clear H
                        have p22 : 0 ≤ (x9_3 : Int) := of_decide_eq_true (by first | (with_reducible assumption) | assumption)
                        have q22 : x9_3 < (a0.size : Int) := of_decide_eq_true (by first | (with_reducible assumption) | assumption)
                        have hx22 := bt_at a0 x9_3
                        replace p22 := eq_true p22
                        replace q22 := eq_true q22
                        go_wp2
                        go_roundg k3
                        case measure => have := HK1.out; have := HK2.out; have := HK3.out; omega
                        case rel => exact ⟨(x7_3), (wrap64 (x9_3 + 1)), (by first | rfl | (simp; done) | (simp [*]; done)), (by first | rfl | (simp; done) | (simp [*]; done)), H', ⟨by have := HK1.out; have := HK2.out; have := HK3.out; omega⟩, ⟨by (with_reducible repeat (first | apply Kd.R_alloc | apply Kd.R_drewN | apply Kd.R_drew)); exact HO_5.out⟩, ⟨by repeat (first | (with_reducible first | exact HB.out | apply below_alloc | apply pw_below_drewN | apply below_drew1) | exact HB.out)⟩⟩
                    · rw [if_neg c21] at H
                      exact absurd H (by simp)
                  · rw [if_neg c20] at H
                    have c20b0 : decide (x9_3 < (a0.size : Int)) = false := decide_eq_false c20
                    clear c20
                    by_cases c24 : t222 = true
                    · subst c24
                      have H1 : (if (t223.length : Int) = (wrap64 (x7_3 + 1)) then ((token_Parts.f k3 x6_2).bind fun t228 => ((transeptref09_Same.f k3 t228 t223).bind fun t231 => (some t231))) else (some false)) = some r := by rw [if_pos rfl] at H; exact H
                      clear H
                      have H := H1
                      clear H1
                      by_cases c25 : (t223.length : Int) = (wrap64 (x7_3 + 1))
                      · rw [if_pos c25] at H
                        have c25b0 : ((t223.length : Int) == (wrap64 (x7_3 + 1))) = true := beq_iff_eq.mpr c25
                        have c25b1 : ((t223.length : Int) != (wrap64 (x7_3 + 1))) = false := bne_eq_false_iff_eq.mpr c25
                        clear c25
                        replace H := Option.bind_eq_some_iff.mp H
                        obtain ⟨t228, A260, H⟩ := H
                        replace H : ((transeptref09_Same.f k3 t228 t223).bind fun t231 => (some t231)) = some r := H
                        have A26 := Aside0.mk A260
                        clear A260
                        replace H := Option.bind_eq_some_iff.mp H
                        obtain ⟨t231, A270, H⟩ := H
                        replace H : (some t231) = some r := H
                        have A27 := Aside0.mk A270
                        clear A270
                        obtain rfl := Option.some.inj H
                        go_wp2_with (first | (go_at_call 24; (with_reducible refine (token_Parts.calls k3 x6_2 t228 _ A26.out).mono ?_); rintro e w28 ⟨v229, rfl, ho0, hb⟩; have n0_ := Aside0.mk (Kd.R_elder' (by (with_reducible repeat (first | apply Kd.R_alloc | apply Kd.R_drewN | apply Kd.R_drew)); exact HO_5.out) (Kd.R_base ho0) hb); have n1_ := Aside0.mk (Kd.R_lower (Kd.R_new' ho0 (Kd.R_lt (by (with_reducible repeat (first | apply Kd.R_alloc | apply Kd.R_drewN | apply Kd.R_drew)); exact HO_5.out))) (below_size (by repeat (first | (with_reducible first | exact HB.out | apply below_alloc | apply pw_below_drewN | apply below_drew1) | exact HB.out)))); have n2_ := Aside0.mk (below_step (by repeat (first | (with_reducible first | exact HB.out | apply below_alloc | apply pw_below_drewN | apply below_drew1) | exact HB.out)) hb); clear HO_5; clear HB; have HO_5 := n0_; have HO230 := n1_; have HB := n2_; clear n0_ n1_ n2_; (try clear hb); (try clear hb2); (try clear hk); (try clear hi); (try clear ho0); obtain ⟨Ao29, co29, eo29⟩ := Kd.R_slice HO230.out; subst eo29) | (go_at_call 23; (with_reducible refine (transeptref09_Same.calls k3 _ _ t228 _ _ t223 t231 _ ?side1 ?side2 ?side3 ?side4 A27.out).mono ?_); (case side1 => repeat (first | exact (Kd.R_reads' HO230.out).2.2 | (with_reducible refine Kd.C_alloc ?_ _) | (with_reducible refine Kd.C_drewN ?_ _) | (with_reducible refine Kd.C_drew ?_))); (case side2 => exact (Kd.R_reads' HO230.out).2.1); (case side3 => repeat (first | exact (Kd.R_reads' HO_5.out).2.2 | (with_reducible refine Kd.C_alloc ?_ _) | (with_reducible refine Kd.C_drewN ?_ _) | (with_reducible refine Kd.C_drew ?_))); (case side4 => exact (Kd.R_reads' HO_5.out).2.1); rintro e w' ⟨rfl, ⟨nd, rfl⟩⟩))
                        all_goals go_ret
                        all_goals exact ⟨by first | rfl | (simp [errW_none, errW_some] <;> rfl) | (simp [*, errW_none, errW_some] <;> rfl), by repeat (first | (with_reducible first | exact HB.out | apply below_alloc | apply pw_below_drewN | apply below_drew1) | exact HB.out)⟩
                      · rw [if_neg c25] at H
                        have c25b0 : ((t223.length : Int) == (wrap64 (x7_3 + 1))) = false := beq_eq_false_iff_ne.mpr c25
                        have c25b1 : ((t223.length : Int) != (wrap64 (x7_3 + 1))) = true := bne_iff_ne.mpr c25
                        obtain rfl := Option.some.inj H
                        go_wp2
                        all_goals go_ret
                        all_goals exact ⟨by first | rfl | (simp [errW_none, errW_some] <;> rfl) | (simp [*, errW_none, errW_some] <;> rfl), by repeat (first | (with_reducible first | exact HB.out | apply below_alloc | apply pw_below_drewN | apply below_drew1) | exact HB.out)⟩
                    · replace c24 := Bool.eq_false_iff.mpr c24
                      subst c24
                      have H1 : (some false) = some r := by rw [if_neg (show ¬ (false = true) by decide)] at H; exact H
                      clear H
                      have H := H1
                      clear H1
                      obtain rfl := Option.some.inj H
                      go_wp2
                      all_goals go_ret
                      all_goals exact ⟨by first | rfl | (simp [errW_none, errW_some] <;> rfl) | (simp [*, errW_none, errW_some] <;> rfl), by repeat (first | (with_reducible first | exact HB.out | apply below_alloc | apply pw_below_drewN | apply below_drew1) | exact HB.out)⟩

end Go.Proofs.YtkdcgodpobhfhaaDoor.Fun
