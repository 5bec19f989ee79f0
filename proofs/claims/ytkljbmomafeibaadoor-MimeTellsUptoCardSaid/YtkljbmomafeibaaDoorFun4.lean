-- Written by xprint.py, a program of this session's, by means of the kit's print. Not trusted: Lean checks it.
import Derived.Test.YtkljbmomafeibaaDoorFun0
import Derived.Test.YtkljbmomafeibaaDoorFun3
namespace Go.Proofs.YtkljbmomafeibaaDoor.Fun
open Go.RowKit Go.Proofs.YtkljbmomafeibaaDoorW.PrintWords Go.Proofs.YtkljbmomafeibaaDoorW.PrintLast Go.Proofs.YtkljbmomafeibaaDoorW.PrintMore
attribute [local go_sem] max2_int min2_int max_two min_two max_three min_three max_four min_four   -- for this text's walks alone
set_option linter.unusedVariables false
set_option linter.unusedSimpArgs false

/-! ### transeptref11_Essence: function 9 -/
def transeptref11_Essence.j0 : Nat → ByteArray → ByteArray → Bool → Option (ByteArray × Bool)
  | 0, _, _, _ => none
  | k + 1, x7, x8, x38 => if x38 = true then (some ((⟨#[]⟩ : ByteArray), false)) else ((transeptref09_Lower.f x7).bind fun t187 => (if t187.size + 1 ≤ 9223372036854775807 then ((transeptref09_Lower.f x8).bind fun t188 => (if (t187 ++ (⟨#[47]⟩ : ByteArray)).size + t188.size ≤ 9223372036854775807 then (some ((t187 ++ (⟨#[47]⟩ : ByteArray)) ++ t188, true)) else (none))) else (none)))
def transeptref11_Essence.f (k : Nat) (a0 : ByteArray) : Option (ByteArray × Bool) := (transeptref11_until.f k a0 59).bind fun bt178 => ((transeptref09_Trim.f k bt178.1).bind fun t181 => ((transeptref11_until.f k t181 47).bind fun bt182 => ((transeptref09_Name.f k bt182.1).bind fun t185 => ((transeptref09_Name.f k bt182.2.1).bind fun t186 => (if bt182.2.2 = true then (if t185 = true then (transeptref11_Essence.j0 k bt182.1 bt182.2.1 (!t186)) else (transeptref11_Essence.j0 k bt182.1 bt182.2.1 true)) else (transeptref11_Essence.j0 k bt182.1 bt182.2.1 true))))))
theorem transeptref11_Essence.mono_l : ∀ k, (∀ y0 y1 y2, LeO (transeptref11_Essence.j0 k y0 y1 y2) (transeptref11_Essence.j0 (k + 1) y0 y1 y2))
  | 0 => fun _ _ _ r h => by simp [transeptref11_Essence.j0] at h
  | k + 1 => by
    have ih0 := transeptref11_Essence.mono_l k
    · intro y0 y1 y2
      unfold transeptref11_Essence.j0
      repeat' first
      | (with_reducible exact ih0 _ _ _)
      | (with_reducible exact transeptref09_Name.mono _ _)
      | (with_reducible exact transeptref09_Trim.mono _ _)
      | (with_reducible exact transeptref11_until.mono _ _ _)
      | (with_reducible exact LeO.refl _)
      | (with_reducible exact LeO.none _)
      | (with_reducible refine LeO.ite ?_ ?_)
      | (with_reducible refine LeO.bind ?_ (fun _ => ?_))
      | exact ih0 _ _ _
      | exact transeptref09_Name.mono _ _
      | exact transeptref09_Trim.mono _ _
      | exact transeptref11_until.mono _ _ _
      | exact LeO.none _
      | refine LeO.ite ?_ ?_
      | refine LeO.bind ?_ (fun _ => ?_)
theorem transeptref11_Essence.mono : ∀ a0 k, LeO (transeptref11_Essence.f k a0) (transeptref11_Essence.f (k + 1) a0) := by
  intro a0 k
  have ih0 := transeptref11_Essence.mono_l k
  unfold transeptref11_Essence.f
  repeat' first
      | (with_reducible exact ih0 _ _ _)
      | (with_reducible exact transeptref09_Name.mono _ _)
      | (with_reducible exact transeptref09_Trim.mono _ _)
      | (with_reducible exact transeptref11_until.mono _ _ _)
      | (with_reducible exact LeO.refl _)
      | (with_reducible exact LeO.none _)
      | (with_reducible refine LeO.ite ?_ ?_)
      | (with_reducible refine LeO.bind ?_ (fun _ => ?_))
      | exact ih0 _ _ _
      | exact transeptref09_Name.mono _ _
      | exact transeptref09_Trim.mono _ _
      | exact transeptref11_until.mono _ _ _
      | exact LeO.none _
      | refine LeO.ite ?_ ?_
      | refine LeO.bind ?_ (fun _ => ?_)
set_option maxHeartbeats 8000000 in
set_option maxRecDepth 100000 in
theorem transeptref11_Essence.calls (k : Nat) (a0 : ByteArray) (r1 : ByteArray) (r2 : Bool) (w : World) (h : transeptref11_Essence.f k a0 = some (r1, r2)) :
    Calls Tryd.prog 9 #[.string a0] w fun e w' => e = .returned (.tuple #[.string r1, .bool r2]) ∧ Below w.heap.size w w' := by
  have HB := Aside0.mk (Below.refl w.heap.size w)
  have H : ((transeptref11_until.f k a0 59).bind fun bt178 => ((transeptref09_Trim.f k bt178.1).bind fun t181 => ((transeptref11_until.f k t181 47).bind fun bt182 => ((transeptref09_Name.f k bt182.1).bind fun t185 => ((transeptref09_Name.f k bt182.2.1).bind fun t186 => (if bt182.2.2 = true then (if t185 = true then (transeptref11_Essence.j0 k bt182.1 bt182.2.1 (!t186)) else (transeptref11_Essence.j0 k bt182.1 bt182.2.1 true)) else (transeptref11_Essence.j0 k bt182.1 bt182.2.1 true))))))) = some (r1, r2) := h
  clear h
  replace H := Option.bind_eq_some_iff.mp H
  obtain ⟨⟨t178, t179, t180⟩, A20, H⟩ := H
  replace H : ((transeptref09_Trim.f k t178).bind fun t181 => ((transeptref11_until.f k t181 47).bind fun bt182 => ((transeptref09_Name.f k bt182.1).bind fun t185 => ((transeptref09_Name.f k bt182.2.1).bind fun t186 => (if bt182.2.2 = true then (if t185 = true then (transeptref11_Essence.j0 k bt182.1 bt182.2.1 (!t186)) else (transeptref11_Essence.j0 k bt182.1 bt182.2.1 true)) else (transeptref11_Essence.j0 k bt182.1 bt182.2.1 true)))))) = some (r1, r2) := H
  have A2 := Aside0.mk A20
  clear A20
  replace H := Option.bind_eq_some_iff.mp H
  obtain ⟨t181, A30, H⟩ := H
  replace H : ((transeptref11_until.f k t181 47).bind fun bt182 => ((transeptref09_Name.f k bt182.1).bind fun t185 => ((transeptref09_Name.f k bt182.2.1).bind fun t186 => (if bt182.2.2 = true then (if t185 = true then (transeptref11_Essence.j0 k bt182.1 bt182.2.1 (!t186)) else (transeptref11_Essence.j0 k bt182.1 bt182.2.1 true)) else (transeptref11_Essence.j0 k bt182.1 bt182.2.1 true))))) = some (r1, r2) := H
  have A3 := Aside0.mk A30
  clear A30
  replace H := Option.bind_eq_some_iff.mp H
  obtain ⟨⟨t182, t183, t184⟩, A40, H⟩ := H
  replace H : ((transeptref09_Name.f k t182).bind fun t185 => ((transeptref09_Name.f k t183).bind fun t186 => (if t184 = true then (if t185 = true then (transeptref11_Essence.j0 k t182 t183 (!t186)) else (transeptref11_Essence.j0 k t182 t183 true)) else (transeptref11_Essence.j0 k t182 t183 true)))) = some (r1, r2) := H
  have A4 := Aside0.mk A40
  clear A40
  replace H := Option.bind_eq_some_iff.mp H
  obtain ⟨t185, A50, H⟩ := H
  replace H : ((transeptref09_Name.f k t183).bind fun t186 => (if t184 = true then (if t185 = true then (transeptref11_Essence.j0 k t182 t183 (!t186)) else (transeptref11_Essence.j0 k t182 t183 true)) else (transeptref11_Essence.j0 k t182 t183 true))) = some (r1, r2) := H
  have A5 := Aside0.mk A50
  clear A50
  replace H := Option.bind_eq_some_iff.mp H
  obtain ⟨t186, A60, H⟩ := H
  replace H : (if t184 = true then (if t185 = true then (transeptref11_Essence.j0 k t182 t183 (!t186)) else (transeptref11_Essence.j0 k t182 t183 true)) else (transeptref11_Essence.j0 k t182 t183 true)) = some (r1, r2) := H
  have A6 := Aside0.mk A60
  clear A60
  have HC7 := Aside0.mk H
  clear H
  go_enter Tryd.func9, Tryd.ntmps9
  go_upto_region 5 with (first | ((with_reducible refine gate_callee (f := 18) rfl ?_); refine goesL_ (some 14) rfl rfl Tryd.func18 (by kernel_rfl) rfl #[.string a0, .int .u8 59] rfl (by (try simp only [List.map_toArray, List.map_cons, List.map_nil]); first | done | rfl | (simp only [List.length_drop, List.length_take]; rfl)) ?_; (with_reducible refine (transeptref11_until.calls k a0 59 t178 t179 t180 _ A2.out).mono ?_); rintro e w' ⟨rfl, ⟨nd, rfl⟩⟩; refine ⟨_, rfl, ?_⟩) | ((with_reducible refine gate_callee (f := 19) rfl ?_); refine goesL_ (some 20) rfl rfl Tryd.func19 (by kernel_rfl) rfl #[.string t178] rfl (by (try simp only [List.map_toArray, List.map_cons, List.map_nil]); first | done | rfl | (simp only [List.length_drop, List.length_take]; rfl)) ?_; (with_reducible refine (transeptref09_Trim.calls k t178 t181 _ A3.out).mono ?_); rintro e w' ⟨rfl, ⟨nd, rfl⟩⟩; refine ⟨_, rfl, ?_⟩) | ((with_reducible refine gate_callee (f := 18) rfl ?_); refine goesL_ (some 21) rfl rfl Tryd.func18 (by kernel_rfl) rfl #[.string t181, .int .u8 47] rfl (by (try simp only [List.map_toArray, List.map_cons, List.map_nil]); first | done | rfl | (simp only [List.length_drop, List.length_take]; rfl)) ?_; (with_reducible refine (transeptref11_until.calls k t181 47 t182 t183 t184 _ A4.out).mono ?_); rintro e w' ⟨rfl, ⟨nd, rfl⟩⟩; refine ⟨_, rfl, ?_⟩) | ((with_reducible refine gate_callee (f := 20) rfl ?_); refine goesL_ (some 26) rfl rfl Tryd.func20 (by kernel_rfl) rfl #[.string t182] rfl (by (try simp only [List.map_toArray, List.map_cons, List.map_nil]); first | done | rfl | (simp only [List.length_drop, List.length_take]; rfl)) ?_; (with_reducible refine (transeptref09_Name.calls k t182 t185 _ A5.out).mono ?_); rintro e w' ⟨rfl, ⟨nd, rfl⟩⟩; refine ⟨_, rfl, ?_⟩) | ((with_reducible refine gate_callee (f := 20) rfl ?_); refine goesL_ (some 28) rfl rfl Tryd.func20 (by kernel_rfl) rfl #[.string t183] rfl (by (try simp only [List.map_toArray, List.map_cons, List.map_nil]); first | done | rfl | (simp only [List.length_drop, List.length_take]; rfl)) ?_; (with_reducible refine (transeptref09_Name.calls k t183 t186 _ A6.out).mono ?_); rintro e w' ⟨rfl, ⟨nd, rfl⟩⟩; refine ⟨_, rfl, ?_⟩))
  (try simp only [Act.put, List.setIfInBounds_toArray, List.set_cons_zero, List.set_cons_succ])
  go_cut [38] (fun v38 wc => ∃ (kq : Nat) (x38_6 : Bool), v38 = .bool x38_6 ∧ Aside0 (transeptref11_Essence.j0 kq t182 t183 x38_6 = some (r1, r2)) ∧ Aside0 (kq ≤ k) ∧ Aside0 (Below w.heap.size w wc))
  case first =>
    have H := HC7.out
    clear HC7
    by_cases c8 : t184 = true
    · subst c8
      have H1 : (if t185 = true then (transeptref11_Essence.j0 k t182 t183 (!t186)) else (transeptref11_Essence.j0 k t182 t183 true)) = some (r1, r2) := by rw [if_pos rfl] at H; exact H
      clear H
      have H := H1
      clear H1
      by_cases c9 : t185 = true
      · subst c9
        have H1 : (transeptref11_Essence.j0 k t182 t183 (!t186)) = some (r1, r2) := by rw [if_pos rfl] at H; exact H
        clear H
        have H := H1
        clear H1
        have H' := Aside0.mk H
        clear H
        go_wp2
        all_goals (try (exfalso; omega))
        go_meet
        case rel => exact ⟨_, (!t186), (by first | rfl | (simp; done) | (simp [*]; done) | (congr 1; unfold wrap64; omega) | (simp; simp only [decide_eq_false_iff_not, decide_eq_true_eq] at *; congr 2; omega)), H', ⟨by first | omega | exact Nat.le_refl _⟩, ⟨by repeat (first | (with_reducible first | exact HB.out | apply below_alloc | apply pw_below_drewN | apply below_drew1) | exact HB.out)⟩⟩
      · replace c9 := Bool.eq_false_iff.mpr c9
        subst c9
        have H1 : (transeptref11_Essence.j0 k t182 t183 true) = some (r1, r2) := by rw [if_neg (show ¬ (false = true) by decide)] at H; exact H
        clear H
        have H := H1
        clear H1
        have H' := Aside0.mk H
        clear H
        go_wp2
        all_goals (try (exfalso; omega))
        go_meet
        case rel => exact ⟨_, (true), (by first | rfl | (simp; done) | (simp [*]; done) | (congr 1; unfold wrap64; omega) | (simp; simp only [decide_eq_false_iff_not, decide_eq_true_eq] at *; congr 2; omega)), H', ⟨by first | omega | exact Nat.le_refl _⟩, ⟨by repeat (first | (with_reducible first | exact HB.out | apply below_alloc | apply pw_below_drewN | apply below_drew1) | exact HB.out)⟩⟩
    · replace c8 := Bool.eq_false_iff.mpr c8
      subst c8
      have H1 : (transeptref11_Essence.j0 k t182 t183 true) = some (r1, r2) := by rw [if_neg (show ¬ (false = true) by decide)] at H; exact H
      clear H
      have H := H1
      clear H1
      have H' := Aside0.mk H
      clear H
      go_wp2
      all_goals (try (exfalso; omega))
      go_meet
      case rel => exact ⟨_, (true), (by first | rfl | (simp; done) | (simp [*]; done) | (congr 1; unfold wrap64; omega) | (simp; simp only [decide_eq_false_iff_not, decide_eq_true_eq] at *; congr 2; omega)), H', ⟨by first | omega | exact Nat.le_refl _⟩, ⟨by repeat (first | (with_reducible first | exact HB.out | apply below_alloc | apply pw_below_drewN | apply below_drew1) | exact HB.out)⟩⟩
  case rest =>
    clear HC7
    try clear c1
    try clear c2
    try clear p2
    try clear c8
    try clear c9
    obtain ⟨kq, x38_6, rfl, HA, HJ6, HB⟩ := hcut
    cases kq with
    | zero => exact absurd HA.out (by simp [transeptref11_Essence.j0])
    | succ kj6 =>
      have H := HA.out
      clear HA
      simp only [transeptref11_Essence.j0] at H
      by_cases c10 : x38_6 = true
      · subst c10
        have H1 : (some ((⟨#[]⟩ : ByteArray), false)) = some (r1, r2) := by rw [if_pos rfl] at H; exact H
        clear H
        have H := H1
        clear H1
        simp only [Option.some.injEq, Prod.mk.injEq] at H
        obtain ⟨rfl, rfl⟩ := H
        go_wp2
        all_goals (try (exfalso; omega))
        go_ret2
        exact ⟨by first | rfl | (simp [errW_none, errW_some] <;> rfl) | (simp [*, errW_none, errW_some] <;> rfl), by repeat (first | (with_reducible first | exact HB.out | apply below_alloc | apply pw_below_drewN | apply below_drew1) | exact HB.out)⟩
      · replace c10 := Bool.eq_false_iff.mpr c10
        subst c10
        have H1 : ((transeptref09_Lower.f t182).bind fun t187 => (if t187.size + 1 ≤ 9223372036854775807 then ((transeptref09_Lower.f t183).bind fun t188 => (if (t187 ++ (⟨#[47]⟩ : ByteArray)).size + t188.size ≤ 9223372036854775807 then (some ((t187 ++ (⟨#[47]⟩ : ByteArray)) ++ t188, true)) else (none))) else (none))) = some (r1, r2) := by rw [if_neg (show ¬ (false = true) by decide)] at H; exact H
        clear H
        have H := H1
        clear H1
        replace H := Option.bind_eq_some_iff.mp H
        obtain ⟨t187, A110, H⟩ := H
        replace H : (if t187.size + 1 ≤ 9223372036854775807 then ((transeptref09_Lower.f t183).bind fun t188 => (if (t187 ++ (⟨#[47]⟩ : ByteArray)).size + t188.size ≤ 9223372036854775807 then (some ((t187 ++ (⟨#[47]⟩ : ByteArray)) ++ t188, true)) else (none))) else (none)) = some (r1, r2) := H
        have A11 := Aside0.mk A110
        clear A110
        by_cases c12 : t187.size + 1 ≤ 9223372036854775807
        · rw [if_pos c12] at H
          have c12b0 := eq_true c12
          have c12b1 : decide (t187.size + 1 ≤ 9223372036854775807) = true := decide_eq_true c12
          try have c12b2 : (9223372036854775807 < t187.size + 1) = False := eq_false (Nat.not_lt.2 c12)
          replace H := Option.bind_eq_some_iff.mp H
          obtain ⟨t188, A130, H⟩ := H
          replace H : (if (t187 ++ (⟨#[47]⟩ : ByteArray)).size + t188.size ≤ 9223372036854775807 then (some ((t187 ++ (⟨#[47]⟩ : ByteArray)) ++ t188, true)) else (none)) = some (r1, r2) := H
          have A13 := Aside0.mk A130
          clear A130
          by_cases c14 : (t187 ++ (⟨#[47]⟩ : ByteArray)).size + t188.size ≤ 9223372036854775807
          · rw [if_pos c14] at H
            (try (have c14x := c14; simp only [ByteArray.size_append, show (⟨#[47]⟩ : ByteArray).size = 1 from rfl] at c14x))
            have c14b0 := eq_true c14
            have c14b1 : decide ((t187 ++ (⟨#[47]⟩ : ByteArray)).size + t188.size ≤ 9223372036854775807) = true := decide_eq_true c14
            try have c14b2 : (9223372036854775807 < (t187 ++ (⟨#[47]⟩ : ByteArray)).size + t188.size) = False := eq_false (Nat.not_lt.2 c14)
            simp only [Option.some.injEq, Prod.mk.injEq] at H
            obtain ⟨rfl, rfl⟩ := H
            go_wp2_with (first | ((with_reducible refine gate_callee (f := 21) rfl ?_); refine goesL_ (some 40) rfl rfl Tryd.func21 (by kernel_rfl) rfl #[.string t182] rfl (by (try simp only [List.map_toArray, List.map_cons, List.map_nil]); first | done | rfl | (simp only [List.length_drop, List.length_take]; rfl)) ?_; (with_reducible refine (transeptref09_Lower.calls t182 t187 _ A11.out).mono ?_); rintro e w15 ⟨rfl, hb⟩; refine ⟨_, rfl, ?_⟩; have n0_ := Aside0.mk (below_step (by repeat (first | (with_reducible first | exact HB.out | apply below_alloc | apply pw_below_drewN | apply below_drew1) | exact HB.out)) hb); clear HB; have HB := n0_; clear n0_; (try clear hb); (try clear hb2); (try clear hk); (try clear hi)) | ((with_reducible refine gate_callee (f := 21) rfl ?_); refine goesL_ (some 43) rfl rfl Tryd.func21 (by kernel_rfl) rfl #[.string t183] rfl (by (try simp only [List.map_toArray, List.map_cons, List.map_nil]); first | done | rfl | (simp only [List.length_drop, List.length_take]; rfl)) ?_; (with_reducible refine (transeptref09_Lower.calls t183 t188 _ A13.out).mono ?_); rintro e w16 ⟨rfl, hb⟩; refine ⟨_, rfl, ?_⟩; have n0_ := Aside0.mk (below_step (by repeat (first | (with_reducible first | exact HB.out | apply below_alloc | apply pw_below_drewN | apply below_drew1) | exact HB.out)) hb); clear HB; have HB := n0_; clear n0_; (try clear hb); (try clear hb2); (try clear hk); (try clear hi)))
            all_goals (try (exfalso; omega))
            go_ret2
            exact ⟨by first | rfl | (simp [errW_none, errW_some] <;> rfl) | (simp [*, errW_none, errW_some] <;> rfl), by repeat (first | (with_reducible first | exact HB.out | apply below_alloc | apply pw_below_drewN | apply below_drew1) | exact HB.out)⟩
          · rw [if_neg c14] at H
            (try (have c14x := c14; simp only [ByteArray.size_append, show (⟨#[47]⟩ : ByteArray).size = 1 from rfl] at c14x))
            exact absurd H (by simp)
        · rw [if_neg c12] at H
          exact absurd H (by simp)

/-! ### transeptref10_All: function 52 -/
def transeptref10_All.l0 : Nat → List (S48) → ByteArray → List ByteArray → Int → Option (List ByteArray)
  | 0, _, _, _, _ => none
  | k + 1, x0, x1, x5, x6 => if x6 < (x0.length : Int) then (if 0 ≤ x6 then ((transeptref09_Lower.f ((rd_T48 x0 x6).f0)).bind fun t193 => ((transeptref09_Lower.f x1).bind fun t194 => (if t193.toList = t194.toList then (if x5.length < 8796093022208 then (transeptref10_All.l0 k x0 x1 (x5 ++ [(rd_T48 x0 x6).f1]) (wrap64 (x6 + 1))) else (none)) else (transeptref10_All.l0 k x0 x1 x5 (wrap64 (x6 + 1)))))) else (none)) else (some x5)
def transeptref10_All.f (k : Nat) (l0 : List (S48)) (a1 : ByteArray) : Option (List ByteArray) := transeptref10_All.l0 k l0 a1 (([] : List ByteArray)) 0
theorem transeptref10_All.mono_l : ∀ k, (∀ y0 y1 y2 y3, LeO (transeptref10_All.l0 k y0 y1 y2 y3) (transeptref10_All.l0 (k + 1) y0 y1 y2 y3))
  | 0 => fun _ _ _ _ r h => by simp [transeptref10_All.l0] at h
  | k + 1 => by
    have ih0 := transeptref10_All.mono_l k
    · intro y0 y1 y2 y3
      unfold transeptref10_All.l0
      repeat' first
      | (with_reducible exact ih0 _ _ _ _)
      | (with_reducible exact LeO.refl _)
      | (with_reducible exact LeO.none _)
      | (with_reducible refine LeO.ite ?_ ?_)
      | (with_reducible refine LeO.bind ?_ (fun _ => ?_))
      | exact ih0 _ _ _ _
      | exact LeO.none _
      | refine LeO.ite ?_ ?_
      | refine LeO.bind ?_ (fun _ => ?_)
theorem transeptref10_All.mono : ∀ a0 a1 k, LeO (transeptref10_All.f k a0 a1) (transeptref10_All.f (k + 1) a0 a1) := by
  intro a0 a1 k
  have ih0 := transeptref10_All.mono_l k
  unfold transeptref10_All.f
  repeat' first
      | (with_reducible exact ih0 _ _ _ _)
      | (with_reducible exact LeO.refl _)
      | (with_reducible exact LeO.none _)
      | (with_reducible refine LeO.ite ?_ ?_)
      | (with_reducible refine LeO.bind ?_ (fun _ => ?_))
      | exact ih0 _ _ _ _
      | exact LeO.none _
      | refine LeO.ite ?_ ?_
      | refine LeO.bind ?_ (fun _ => ?_)
set_option maxHeartbeats 8000000 in
set_option maxRecDepth 100000 in
theorem transeptref10_All.calls (k : Nat) (A0 : Option Addr) (c0 : Nat) (l0 : List (S48)) (a1 : ByteArray) (r : List ByteArray) (w : World) (hr0 : Kd.C k48 w A0 l0.length l0) (hc0 : l0.length ≤ c0) (h : transeptref10_All.f k l0 a1 = some r) :
    Calls Tryd.prog 52 #[.slice A0 l0.length c0, .string a1] w fun e w' => ∃ v0_ : Value, e = .returned (v0_) ∧ Kd.R Kd.string 9 w' w.heap.size (fun _ => True) v0_ r ∧ Below w.heap.size w w' := by
  have HR0 := Aside0.mk hr0
  have HC0 := Aside0.mk hc0
  clear hr0 hc0
  have HB := Aside0.mk (Below.refl w.heap.size w)
  have H : (transeptref10_All.l0 k l0 a1 (([] : List ByteArray)) 0) = some r := h
  clear h
  obtain ⟨y189, hy189⟩ : ∃ y_ : List ByteArray, y_ = (([] : List ByteArray)) := ⟨_, rfl⟩
  replace H : (transeptref10_All.l0 k l0 a1 y189 0) = some r := by first | (rw [hy189]; with_reducible exact H) | (have H2_ := (Option.bind_some _ _).symm.trans H; rw [hy189]; with_reducible exact H2_) | (have H2_ := (Option.bind_some _ _).symm.trans H; with_reducible exact H2_) | with_reducible exact H | (rw [hy189]; exact H) | exact H
  have Ny189 := Aside0.mk hy189
  clear hy189
  have H' := Aside0.mk H
  clear H
  go_enter Tryd.func52, Tryd.ntmps52
  go_wp2_with (first | ((with_reducible refine gate_dst (N := 7) rfl ?_); refine Kd.R_lit Kd.string _ 9 ?hg (N := 7) ?hd (xs := ([] : List ByteArray)) (inner := []) (ok := fun _ => True) (okp := fun _ => True) ?hr ?hp (fun _ hk => hk) trivial (Below.refl _ _) (Nat.le_refl _) (by simp) ?_; (case hd => rfl); (case hg => rfl); (case hr => first | (go_simp; done) | (go_simp; rfl)); (case hp => exact (Reps.none _ _)); intro v190 w3 ho4 hb hg_ hnew_; clear hg_ hnew_; (first | rw [← Ny189.out] at ho4 | (simp only [Int.reduceToNat] at ho4; rw [← Ny189.out] at ho4)); have n0_ := Aside0.mk (Kd.R_lower ho4 (below_size (by repeat (first | (with_reducible first | exact HB.out | apply below_alloc | apply pw_below_drewN | apply below_drew1) | exact HB.out)))); have n1_ := Aside0.mk (below_step (by repeat (first | (with_reducible first | exact HB.out | apply below_alloc | apply pw_below_drewN | apply below_drew1) | exact HB.out)) hb); clear HB; have HO191 := n0_; have HB := n1_; clear n0_ n1_; clear hb ho4))
  all_goals (try (exfalso; omega))
  go_loopg [5, 6] k (fun kq v5 v6 w' => ∃ (x5_1 : List ByteArray) (x6_1 : Int), v6 = .int .i64 x6_1 ∧ Aside0 (transeptref10_All.l0 kq l0 a1 x5_1 x6_1 = some r) ∧ Aside0 (kq ≤ k) ∧ Aside0 (Kd.R Kd.string 9 w' w.heap.size (fun _ => True) v5 x5_1) ∧ Aside0 (Below w.heap.size w w'))
  case atStart => exact ⟨(y189), (0), (by first | rfl | (simp; done) | (simp [*]; done) | (congr 1; unfold wrap64; omega) | (simp; simp only [decide_eq_false_iff_not, decide_eq_true_eq] at *; congr 2; omega)), H', ⟨Nat.le_refl _⟩, ⟨by (with_reducible repeat (first | apply Kd.R_alloc | apply Kd.R_drewN | apply Kd.R_drew)); exact HO191.out⟩, ⟨by repeat (first | (with_reducible first | exact HB.out | apply below_alloc | apply pw_below_drewN | apply below_drew1) | exact HB.out)⟩⟩
  case round =>
    clear H'
    try clear p2
    obtain ⟨x5_1, x6_1, rfl, HA, HK1, HO_5, HB⟩ := hrel
    cases gk with
    | zero => exact absurd HA.out (by simp [transeptref10_All.l0])
    | succ k1 =>
      have H := HA.out
      clear HA
      simp only [transeptref10_All.l0] at H
      by_cases c5 : x6_1 < (l0.length : Int)
      · rw [if_pos c5] at H
        have c5b0 : decide (x6_1 < (l0.length : Int)) = true := decide_eq_true c5
        by_cases c6 : 0 ≤ x6_1
        · rw [if_pos c6] at H
          have c6b0 : decide (0 ≤ x6_1) = true := decide_eq_true c6
          replace H := Option.bind_eq_some_iff.mp H
          obtain ⟨t193, A70, H⟩ := H
          replace H : ((transeptref09_Lower.f a1).bind fun t194 => (if t193.toList = t194.toList then (if x5_1.length < 8796093022208 then (transeptref10_All.l0 k1 l0 a1 (x5_1 ++ [(rd_T48 l0 x6_1).f1]) (wrap64 (x6_1 + 1))) else (none)) else (transeptref10_All.l0 k1 l0 a1 x5_1 (wrap64 (x6_1 + 1))))) = some r := H
          have A7 := Aside0.mk A70
          clear A70
          replace H := Option.bind_eq_some_iff.mp H
          obtain ⟨t194, A80, H⟩ := H
          replace H : (if t193.toList = t194.toList then (if x5_1.length < 8796093022208 then (transeptref10_All.l0 k1 l0 a1 (x5_1 ++ [(rd_T48 l0 x6_1).f1]) (wrap64 (x6_1 + 1))) else (none)) else (transeptref10_All.l0 k1 l0 a1 x5_1 (wrap64 (x6_1 + 1)))) = some r := H
          have A8 := Aside0.mk A80
          clear A80
          by_cases c9 : t193.toList = t194.toList
          · rw [if_pos c9] at H
            have c9b0 : (t193.toList == t194.toList) = true := beq_iff_eq.mpr c9
            have c9b1 : (t193.toList != t194.toList) = false := bne_eq_false_iff_eq.mpr c9
            clear c9
            by_cases c10 : x5_1.length < 8796093022208
            · rw [if_pos c10] at H
              have LMc10 := Aside0.mk c10
              obtain ⟨y196, hy196⟩ : ∃ y_ : List ByteArray, y_ = (x5_1 ++ [(rd_T48 l0 x6_1).f1]) := ⟨_, rfl⟩
              replace H : (transeptref10_All.l0 k1 l0 a1 y196 (wrap64 (x6_1 + 1))) = some r := by first | (rw [hy196]; with_reducible exact H) | (have H2_ := (Option.bind_some _ _).symm.trans H; rw [hy196]; with_reducible exact H2_) | (have H2_ := (Option.bind_some _ _).symm.trans H; with_reducible exact H2_) | with_reducible exact H | (rw [hy196]; exact H) | exact H
              have Ny196 := Aside0.mk hy196
              clear hy196
              have H' := Aside0.mk H
              clear H
              have p192 : 0 ≤ (x6_1 : Int) := of_decide_eq_true (by first | (with_reducible assumption) | assumption)
              have q192 : x6_1 < (l0.length : Int) := of_decide_eq_true (by first | (with_reducible assumption) | assumption)
              obtain ⟨ad192, e192, hx192_0, hx192_1⟩ := at_T48 HR0.out x6_1 p192 q192
              cases e192
              replace hx192_0 := (HB.out.cell (World.block_lt_of_cell? w _ hx192_0)).trans hx192_0
              replace hx192_1 := (HB.out.cell (World.block_lt_of_cell? w _ hx192_1)).trans hx192_1
              replace p192 := eq_true p192
              replace q192 := eq_true q192
              go_wp2_with (first | ((with_reducible refine gate_callee (f := 21) rfl ?_); refine goesL_ (some 19) rfl rfl Tryd.func21 (by kernel_rfl) rfl #[.string ((rd_T48 l0 x6_1).f0)] rfl (by (try simp only [List.map_toArray, List.map_cons, List.map_nil]); first | done | rfl | (simp only [List.length_drop, List.length_take]; rfl)) ?_; (with_reducible refine (transeptref09_Lower.calls ((rd_T48 l0 x6_1).f0) t193 _ A7.out).mono ?_); rintro e w11 ⟨rfl, hb⟩; refine ⟨_, rfl, ?_⟩; have n0_ := Aside0.mk (Kd.R_below (by (with_reducible repeat (first | apply Kd.R_alloc | apply Kd.R_drewN | apply Kd.R_drew)); exact HO_5.out) hb); have n1_ := Aside0.mk (below_step (by repeat (first | (with_reducible first | exact HB.out | apply below_alloc | apply pw_below_drewN | apply below_drew1) | exact HB.out)) hb); clear HO_5; clear HB; have HO_5 := n0_; have HB := n1_; clear n0_ n1_; (try clear hb); (try clear hb2); (try clear hk); (try clear hi)) | ((with_reducible refine gate_callee (f := 21) rfl ?_); refine goesL_ (some 21) rfl rfl Tryd.func21 (by kernel_rfl) rfl #[.string a1] rfl (by (try simp only [List.map_toArray, List.map_cons, List.map_nil]); first | done | rfl | (simp only [List.length_drop, List.length_take]; rfl)) ?_; (with_reducible refine (transeptref09_Lower.calls a1 t194 _ A8.out).mono ?_); rintro e w12 ⟨rfl, hb⟩; refine ⟨_, rfl, ?_⟩; have n0_ := Aside0.mk (Kd.R_below (by (with_reducible repeat (first | apply Kd.R_alloc | apply Kd.R_drewN | apply Kd.R_drew)); exact HO_5.out) hb); have n1_ := Aside0.mk (below_step (by repeat (first | (with_reducible first | exact HB.out | apply below_alloc | apply pw_below_drewN | apply below_drew1) | exact HB.out)) hb); clear HO_5; clear HB; have HO_5 := n0_; have HB := n1_; clear n0_ n1_; (try clear hb); (try clear hb2); (try clear hk); (try clear hi); have p195 : 0 ≤ (x6_1 : Int) := of_decide_eq_true (by first | (with_reducible assumption) | assumption); have q195 : x6_1 < (l0.length : Int) := of_decide_eq_true (by first | (with_reducible assumption) | assumption); obtain ⟨ad195, e195, hx195_0, hx195_1⟩ := at_T48 HR0.out x6_1 p195 q195; obtain rfl : ad192 = ad195 := (by injection e195); replace hx195_0 := (HB.out.cell (World.block_lt_of_cell? w _ hx195_0)).trans hx195_0; replace hx195_1 := (HB.out.cell (World.block_lt_of_cell? w _ hx195_1)).trans hx195_1; replace p195 := eq_true p195; replace q195 := eq_true q195) | ((with_reducible refine gate_builtin (b := .append) (xs := #[.tmp 23, .tmp 29]) rfl ?_); at_builtin; refine Kd.R_append Kd.string (w0 := w) w.heap.size rfl (.tmp 23) (.tmp 29) 41 9 (.string ⟨#[]⟩) 16 rfl Tryd.underlying41 info9 rfl (by decide) (by omega) u5 x5_1 ((rd_T48 l0 x6_1).f1) [.string ((rd_T48 l0 x6_1).f1)] (fun _ => True) (fun _ => False) rfl rfl ?aP (fun _ hk => hk.elim) ?aF ?aO ?aB ?aS ?aL ?_; (case aP => exact rfl); (case aB => exact (by repeat (first | (with_reducible first | exact HB.out | apply below_alloc | apply pw_below_drewN | apply below_drew1) | exact HB.out))); (case aF => exact (fun _ _ => trivial)); (case aO => exact (by (with_reducible repeat (first | apply Kd.R_alloc | apply Kd.R_drewN | apply Kd.R_drew)); exact HO_5.out)); (case aS => exact (below_size (by repeat (first | (with_reducible first | exact HB.out | apply below_alloc | apply pw_below_drewN | apply below_drew1) | exact HB.out)))); (case aL => have := LMc10.out; omega); intro v197 w13 ho hb hg hat; rw [← Ny196.out] at ho; have n0_ := Aside0.mk (hb); have n1_ := Aside0.mk (ho); clear HB; clear HO_5; have HB := n0_; have HO198 := n1_; clear n0_ n1_; clear ho hb hg hat))
              all_goals (try (exfalso; omega))
              go_roundg k1
              case measure => have := HK1.out; omega
              case rel => exact ⟨(y196), (wrap64 (x6_1 + 1)), (by first | rfl | (simp; done) | (simp [*]; done) | (congr 1; unfold wrap64; omega) | (simp; simp only [decide_eq_false_iff_not, decide_eq_true_eq] at *; congr 2; omega)), H', ⟨by have := HK1.out; omega⟩, ⟨by (with_reducible repeat (first | apply Kd.R_alloc | apply Kd.R_drewN | apply Kd.R_drew)); exact HO198.out⟩, ⟨by repeat (first | (with_reducible first | exact HB.out | apply below_alloc | apply pw_below_drewN | apply below_drew1) | exact HB.out)⟩⟩
            · rw [if_neg c10] at H
              exact absurd H (by simp)
          · rw [if_neg c9] at H
            have c9b0 : (t193.toList == t194.toList) = false := beq_eq_false_iff_ne.mpr c9
            have c9b1 : (t193.toList != t194.toList) = true := bne_iff_ne.mpr c9
            have H' := Aside0.mk H
            clear H
            have p192 : 0 ≤ (x6_1 : Int) := of_decide_eq_true (by first | (with_reducible assumption) | assumption)
            have q192 : x6_1 < (l0.length : Int) := of_decide_eq_true (by first | (with_reducible assumption) | assumption)
            obtain ⟨ad192, e192, hx192_0, hx192_1⟩ := at_T48 HR0.out x6_1 p192 q192
            cases e192
            replace hx192_0 := (HB.out.cell (World.block_lt_of_cell? w _ hx192_0)).trans hx192_0
            replace hx192_1 := (HB.out.cell (World.block_lt_of_cell? w _ hx192_1)).trans hx192_1
            replace p192 := eq_true p192
            replace q192 := eq_true q192
            go_wp2_with (first | ((with_reducible refine gate_callee (f := 21) rfl ?_); refine goesL_ (some 19) rfl rfl Tryd.func21 (by kernel_rfl) rfl #[.string ((rd_T48 l0 x6_1).f0)] rfl (by (try simp only [List.map_toArray, List.map_cons, List.map_nil]); first | done | rfl | (simp only [List.length_drop, List.length_take]; rfl)) ?_; (with_reducible refine (transeptref09_Lower.calls ((rd_T48 l0 x6_1).f0) t193 _ A7.out).mono ?_); rintro e w14 ⟨rfl, hb⟩; refine ⟨_, rfl, ?_⟩; have n0_ := Aside0.mk (Kd.R_below (by (with_reducible repeat (first | apply Kd.R_alloc | apply Kd.R_drewN | apply Kd.R_drew)); exact HO_5.out) hb); have n1_ := Aside0.mk (below_step (by repeat (first | (with_reducible first | exact HB.out | apply below_alloc | apply pw_below_drewN | apply below_drew1) | exact HB.out)) hb); clear HO_5; clear HB; have HO_5 := n0_; have HB := n1_; clear n0_ n1_; (try clear hb); (try clear hb2); (try clear hk); (try clear hi)) | ((with_reducible refine gate_callee (f := 21) rfl ?_); refine goesL_ (some 21) rfl rfl Tryd.func21 (by kernel_rfl) rfl #[.string a1] rfl (by (try simp only [List.map_toArray, List.map_cons, List.map_nil]); first | done | rfl | (simp only [List.length_drop, List.length_take]; rfl)) ?_; (with_reducible refine (transeptref09_Lower.calls a1 t194 _ A8.out).mono ?_); rintro e w15 ⟨rfl, hb⟩; refine ⟨_, rfl, ?_⟩; have n0_ := Aside0.mk (Kd.R_below (by (with_reducible repeat (first | apply Kd.R_alloc | apply Kd.R_drewN | apply Kd.R_drew)); exact HO_5.out) hb); have n1_ := Aside0.mk (below_step (by repeat (first | (with_reducible first | exact HB.out | apply below_alloc | apply pw_below_drewN | apply below_drew1) | exact HB.out)) hb); clear HO_5; clear HB; have HO_5 := n0_; have HB := n1_; clear n0_ n1_; (try clear hb); (try clear hb2); (try clear hk); (try clear hi)))
            all_goals (try (exfalso; omega))
            go_roundg k1
            case measure => have := HK1.out; omega
            case rel => exact ⟨(x5_1), (wrap64 (x6_1 + 1)), (by first | rfl | (simp; done) | (simp [*]; done) | (congr 1; unfold wrap64; omega) | (simp; simp only [decide_eq_false_iff_not, decide_eq_true_eq] at *; congr 2; omega)), H', ⟨by have := HK1.out; omega⟩, ⟨by (with_reducible repeat (first | apply Kd.R_alloc | apply Kd.R_drewN | apply Kd.R_drew)); exact HO_5.out⟩, ⟨by repeat (first | (with_reducible first | exact HB.out | apply below_alloc | apply pw_below_drewN | apply below_drew1) | exact HB.out)⟩⟩
        · rw [if_neg c6] at H
          exact absurd H (by simp)
      · rw [if_neg c5] at H
        have c5b0 : decide (x6_1 < (l0.length : Int)) = false := decide_eq_false c5
        obtain rfl := Option.some.inj H
        go_wp2
        all_goals (try (exfalso; omega))
        all_goals go_ret
        all_goals exact ⟨_, by first | rfl | (simp [errW_none, errW_some] <;> rfl) | (simp [*, errW_none, errW_some] <;> rfl), by (with_reducible repeat (first | apply Kd.R_alloc | apply Kd.R_drewN | apply Kd.R_drew)); exact HO_5.out, by repeat (first | (with_reducible first | exact HB.out | apply below_alloc | apply pw_below_drewN | apply below_drew1) | exact HB.out)⟩

/-! ### transeptref10_Get: function 36 -/
def transeptref10_Get.l0 : Nat → List ByteArray → ByteArray → Int → Option (ByteArray × Bool)
  | 0, _, _, _ => none
  | k + 1, x6, x7, x8 => if x8 < (x6.length : Int) then (if x8 > 0 then (if x7.size + 2 ≤ 9223372036854775807 then (if 0 ≤ x8 then (if (x7 ++ (⟨#[44, 32]⟩ : ByteArray)).size + (rdOf ByteArray.empty x6 x8).size ≤ 9223372036854775807 then (transeptref10_Get.l0 k x6 ((x7 ++ (⟨#[44, 32]⟩ : ByteArray)) ++ (rdOf ByteArray.empty x6 x8)) (wrap64 (x8 + 1))) else (none)) else (none)) else (none)) else (if 0 ≤ x8 then (if x7.size + (rdOf ByteArray.empty x6 x8).size ≤ 9223372036854775807 then (transeptref10_Get.l0 k x6 (x7 ++ (rdOf ByteArray.empty x6 x8)) (wrap64 (x8 + 1))) else (none)) else (none))) else (some (x7, decide ((x6.length : Int) > 0)))
def transeptref10_Get.f (k : Nat) (l0 : List (S48)) (a1 : ByteArray) : Option (ByteArray × Bool) := (transeptref10_All.f k l0 a1).bind fun t199 => (transeptref10_Get.l0 k t199 (⟨#[]⟩ : ByteArray) 0)
theorem transeptref10_Get.mono_l : ∀ k, (∀ y0 y1 y2, LeO (transeptref10_Get.l0 k y0 y1 y2) (transeptref10_Get.l0 (k + 1) y0 y1 y2))
  | 0 => fun _ _ _ r h => by simp [transeptref10_Get.l0] at h
  | k + 1 => by
    have ih0 := transeptref10_Get.mono_l k
    · intro y0 y1 y2
      unfold transeptref10_Get.l0
      repeat' first
      | (with_reducible exact ih0 _ _ _)
      | (with_reducible exact transeptref10_All.mono _ _ _)
      | (with_reducible exact LeO.refl _)
      | (with_reducible exact LeO.none _)
      | (with_reducible refine LeO.ite ?_ ?_)
      | (with_reducible refine LeO.bind ?_ (fun _ => ?_))
      | exact ih0 _ _ _
      | exact transeptref10_All.mono _ _ _
      | exact LeO.none _
      | refine LeO.ite ?_ ?_
      | refine LeO.bind ?_ (fun _ => ?_)
theorem transeptref10_Get.mono : ∀ a0 a1 k, LeO (transeptref10_Get.f k a0 a1) (transeptref10_Get.f (k + 1) a0 a1) := by
  intro a0 a1 k
  have ih0 := transeptref10_Get.mono_l k
  unfold transeptref10_Get.f
  repeat' first
      | (with_reducible exact ih0 _ _ _)
      | (with_reducible exact transeptref10_All.mono _ _ _)
      | (with_reducible exact LeO.refl _)
      | (with_reducible exact LeO.none _)
      | (with_reducible refine LeO.ite ?_ ?_)
      | (with_reducible refine LeO.bind ?_ (fun _ => ?_))
      | exact ih0 _ _ _
      | exact transeptref10_All.mono _ _ _
      | exact LeO.none _
      | refine LeO.ite ?_ ?_
      | refine LeO.bind ?_ (fun _ => ?_)
set_option maxHeartbeats 8000000 in
set_option maxRecDepth 100000 in
theorem transeptref10_Get.calls (k : Nat) (A0 : Option Addr) (c0 : Nat) (l0 : List (S48)) (a1 : ByteArray) (r1 : ByteArray) (r2 : Bool) (w : World) (hr0 : Kd.C k48 w A0 l0.length l0) (hc0 : l0.length ≤ c0) (h : transeptref10_Get.f k l0 a1 = some (r1, r2)) :
    Calls Tryd.prog 36 #[.slice A0 l0.length c0, .string a1] w fun e w' => e = .returned (.tuple #[.string r1, .bool r2]) ∧ Below w.heap.size w w' := by
  have HR0 := Aside0.mk hr0
  have HC0 := Aside0.mk hc0
  clear hr0 hc0
  have HB := Aside0.mk (Below.refl w.heap.size w)
  have H : ((transeptref10_All.f k l0 a1).bind fun t199 => (transeptref10_Get.l0 k t199 (⟨#[]⟩ : ByteArray) 0)) = some (r1, r2) := h
  clear h
  replace H := Option.bind_eq_some_iff.mp H
  obtain ⟨t199, A30, H⟩ := H
  replace H : (transeptref10_Get.l0 k t199 (⟨#[]⟩ : ByteArray) 0) = some (r1, r2) := H
  have A3 := Aside0.mk A30
  clear A30
  have H' := Aside0.mk H
  clear H
  go_enter Tryd.func36, Tryd.ntmps36
  go_wp2_with (first | ((with_reducible refine gate_callee (f := 52) rfl ?_); refine goesL_ (some 11) rfl rfl Tryd.func52 (by kernel_rfl) rfl #[.slice A0 l0.length c0, .string a1] rfl (by (try simp only [List.map_toArray, List.map_cons, List.map_nil]); first | done | rfl | (simp only [List.length_drop, List.length_take]; rfl)) ?_; (with_reducible refine (transeptref10_All.calls k _ _ l0 a1 t199 _ ?side1 ?side2 A3.out).mono ?_); (case side1 => repeat (first | exact HR0.out | (with_reducible refine Kd.C_alloc ?_ _) | (with_reducible refine Kd.C_drewN ?_ _) | (with_reducible refine Kd.C_drew ?_))); (case side2 => exact HC0.out); rintro e w4 ⟨v200, rfl, ho0, hb⟩; refine ⟨_, rfl, ?_⟩; have n0_ := Aside0.mk (Kd.R_lower ho0 (below_size (by repeat (first | (with_reducible first | exact HB.out | apply below_alloc | apply pw_below_drewN | apply below_drew1) | exact HB.out)))); have n1_ := Aside0.mk (below_step (by repeat (first | (with_reducible first | exact HB.out | apply below_alloc | apply pw_below_drewN | apply below_drew1) | exact HB.out)) hb); clear HB; have HO201 := n0_; have HB := n1_; clear n0_ n1_; (try clear hb); (try clear hb2); (try clear hk); (try clear hi); (try clear ho0)))
  all_goals (try (exfalso; omega))
  go_loopg [7, 8] k (fun kq v7 v8 w' => ∃ (x7_1 : ByteArray) (x8_1 : Int), v7 = .string x7_1 ∧ v8 = .int .i64 x8_1 ∧ Aside0 (transeptref10_Get.l0 kq t199 x7_1 x8_1 = some (r1, r2)) ∧ Aside0 (kq ≤ k) ∧ Aside0 (Kd.R Kd.string 9 w' w.heap.size (fun _ => True) v200 t199) ∧ Aside0 (Below w.heap.size w w'))
  case atStart => exact ⟨((⟨#[]⟩ : ByteArray)), (0), (by first | rfl | (simp; done) | (simp [*]; done) | (congr 1; unfold wrap64; omega) | (simp; simp only [decide_eq_false_iff_not, decide_eq_true_eq] at *; congr 2; omega)), (by first | rfl | (simp; done) | (simp [*]; done) | (congr 1; unfold wrap64; omega) | (simp; simp only [decide_eq_false_iff_not, decide_eq_true_eq] at *; congr 2; omega)), H', ⟨Nat.le_refl _⟩, ⟨by (with_reducible repeat (first | apply Kd.R_alloc | apply Kd.R_drewN | apply Kd.R_drew)); exact HO201.out⟩, ⟨by repeat (first | (with_reducible first | exact HB.out | apply below_alloc | apply pw_below_drewN | apply below_drew1) | exact HB.out)⟩⟩
  case round =>
    clear H'
    try clear p2
    try clear c3
    obtain ⟨x7_1, x8_1, rfl, rfl, HA, HK1, HO_6, HB⟩ := hrel
    cases gk with
    | zero => exact absurd HA.out (by simp [transeptref10_Get.l0])
    | succ k1 =>
      have H := HA.out
      clear HA
      simp only [transeptref10_Get.l0] at H
      by_cases c5 : x8_1 < (t199.length : Int)
      · rw [if_pos c5] at H
        have c5b0 : decide (x8_1 < (t199.length : Int)) = true := decide_eq_true c5
        by_cases c6 : x8_1 > 0
        · rw [if_pos c6] at H
          have c6b0 : decide (0 < x8_1) = true := decide_eq_true c6
          by_cases c7 : x7_1.size + 2 ≤ 9223372036854775807
          · rw [if_pos c7] at H
            have c7b0 := eq_true c7
            have c7b1 : decide (x7_1.size + 2 ≤ 9223372036854775807) = true := decide_eq_true c7
            try have c7b2 : (9223372036854775807 < x7_1.size + 2) = False := eq_false (Nat.not_lt.2 c7)
            by_cases c8 : 0 ≤ x8_1
            · rw [if_pos c8] at H
              have c8b0 : decide (0 ≤ x8_1) = true := decide_eq_true c8
              by_cases c9 : (x7_1 ++ (⟨#[44, 32]⟩ : ByteArray)).size + (rdOf ByteArray.empty t199 x8_1).size ≤ 9223372036854775807
              · rw [if_pos c9] at H
                (try (have c9x := c9; simp only [ByteArray.size_append, show (⟨#[44, 32]⟩ : ByteArray).size = 2 from rfl] at c9x))
                have c9b0 := eq_true c9
                have c9b1 : decide ((x7_1 ++ (⟨#[44, 32]⟩ : ByteArray)).size + (rdOf ByteArray.empty t199 x8_1).size ≤ 9223372036854775807) = true := decide_eq_true c9
                try have c9b2 : (9223372036854775807 < (x7_1 ++ (⟨#[44, 32]⟩ : ByteArray)).size + (rdOf ByteArray.empty t199 x8_1).size) = False := eq_false (Nat.not_lt.2 c9)
                have H' := Aside0.mk H
                clear H
                obtain ⟨Ao10, co10, eo10⟩ := Kd.R_slice HO_6.out
                subst eo10
                have p202 : 0 ≤ (x8_1 : Int) := of_decide_eq_true (by first | (with_reducible assumption) | assumption)
                have q202 : x8_1 < (t199.length : Int) := of_decide_eq_true (by first | (with_reducible assumption) | assumption)
                obtain ⟨ad202, e202, hx202_0⟩ := Kd.at_string (Kd.R_reads' HO_6.out).2.2 x8_1 p202 q202
                cases e202
                replace p202 := eq_true p202
                replace q202 := eq_true q202
                go_wp2
                all_goals (try (exfalso; omega))
                go_roundg k1
                case measure => have := HK1.out; omega
                case rel => exact ⟨((x7_1 ++ (⟨#[44, 32]⟩ : ByteArray)) ++ (rdOf ByteArray.empty t199 x8_1)), (wrap64 (x8_1 + 1)), (by first | rfl | (simp; done) | (simp [*]; done) | (congr 1; unfold wrap64; omega) | (simp; simp only [decide_eq_false_iff_not, decide_eq_true_eq] at *; congr 2; omega)), (by first | rfl | (simp; done) | (simp [*]; done) | (congr 1; unfold wrap64; omega) | (simp; simp only [decide_eq_false_iff_not, decide_eq_true_eq] at *; congr 2; omega)), H', ⟨by have := HK1.out; omega⟩, ⟨by (with_reducible repeat (first | apply Kd.R_alloc | apply Kd.R_drewN | apply Kd.R_drew)); exact HO_6.out⟩, ⟨by repeat (first | (with_reducible first | exact HB.out | apply below_alloc | apply pw_below_drewN | apply below_drew1) | exact HB.out)⟩⟩
              · rw [if_neg c9] at H
                (try (have c9x := c9; simp only [ByteArray.size_append, show (⟨#[44, 32]⟩ : ByteArray).size = 2 from rfl] at c9x))
                exact absurd H (by simp)
            · rw [if_neg c8] at H
              exact absurd H (by simp)
          · rw [if_neg c7] at H
            exact absurd H (by simp)
        · rw [if_neg c6] at H
          have c6b0 : decide (0 < x8_1) = false := decide_eq_false c6
          by_cases c11 : 0 ≤ x8_1
          · rw [if_pos c11] at H
            have c11b0 : decide (0 ≤ x8_1) = true := decide_eq_true c11
            by_cases c12 : x7_1.size + (rdOf ByteArray.empty t199 x8_1).size ≤ 9223372036854775807
            · rw [if_pos c12] at H
              have c12b0 := eq_true c12
              have c12b1 : decide (x7_1.size + (rdOf ByteArray.empty t199 x8_1).size ≤ 9223372036854775807) = true := decide_eq_true c12
              try have c12b2 : (9223372036854775807 < x7_1.size + (rdOf ByteArray.empty t199 x8_1).size) = False := eq_false (Nat.not_lt.2 c12)
              have H' := Aside0.mk H
              clear H
              obtain ⟨Ao13, co13, eo13⟩ := Kd.R_slice HO_6.out
              subst eo13
              have p203 : 0 ≤ (x8_1 : Int) := of_decide_eq_true (by first | (with_reducible assumption) | assumption)
              have q203 : x8_1 < (t199.length : Int) := of_decide_eq_true (by first | (with_reducible assumption) | assumption)
              obtain ⟨ad203, e203, hx203_0⟩ := Kd.at_string (Kd.R_reads' HO_6.out).2.2 x8_1 p203 q203
              cases e203
              replace p203 := eq_true p203
              replace q203 := eq_true q203
              go_wp2
              all_goals (try (exfalso; omega))
              go_roundg k1
              case measure => have := HK1.out; omega
              case rel => exact ⟨(x7_1 ++ (rdOf ByteArray.empty t199 x8_1)), (wrap64 (x8_1 + 1)), (by first | rfl | (simp; done) | (simp [*]; done) | (congr 1; unfold wrap64; omega) | (simp; simp only [decide_eq_false_iff_not, decide_eq_true_eq] at *; congr 2; omega)), (by first | rfl | (simp; done) | (simp [*]; done) | (congr 1; unfold wrap64; omega) | (simp; simp only [decide_eq_false_iff_not, decide_eq_true_eq] at *; congr 2; omega)), H', ⟨by have := HK1.out; omega⟩, ⟨by (with_reducible repeat (first | apply Kd.R_alloc | apply Kd.R_drewN | apply Kd.R_drew)); exact HO_6.out⟩, ⟨by repeat (first | (with_reducible first | exact HB.out | apply below_alloc | apply pw_below_drewN | apply below_drew1) | exact HB.out)⟩⟩
            · rw [if_neg c12] at H
              exact absurd H (by simp)
          · rw [if_neg c11] at H
            exact absurd H (by simp)
      · rw [if_neg c5] at H
        have c5b0 : decide (x8_1 < (t199.length : Int)) = false := decide_eq_false c5
        simp only [Option.some.injEq, Prod.mk.injEq] at H
        obtain ⟨rfl, rfl⟩ := H
        obtain ⟨Ao14, co14, eo14⟩ := Kd.R_slice HO_6.out
        subst eo14
        go_wp2
        all_goals (try (exfalso; omega))
        go_ret2
        exact ⟨by first | rfl | (simp [errW_none, errW_some] <;> rfl) | (simp [*, errW_none, errW_some] <;> rfl), by repeat (first | (with_reducible first | exact HB.out | apply below_alloc | apply pw_below_drewN | apply below_drew1) | exact HB.out)⟩

/-! ### transeptref09_Parts: function 37 -/
mutual
def transeptref09_Parts.l0 : Nat → ByteArray → List ByteArray → Int → Bool → Int → Option (List ByteArray)
  | 0, _, _, _, _, _ => none
  | k + 1, x0, x3, x4, x5, x6 => if x6 < (x0.size : Int) then (if x5 = true then (if 0 ≤ x6 then (transeptref09_Parts.j1 k x0 x3 x4 x5 x6 ((bt x0 x6) == 92)) else (none)) else (transeptref09_Parts.j1 k x0 x3 x4 x5 x6 false)) else (if 0 ≤ x4 then (if x4 ≤ (x0.size : Int) then ((transeptref09_Strip.f k (x0.extract (x4 : Int).toNat x0.size) (⟨#[9, 32]⟩ : ByteArray)).bind fun t207 => (if x3.length < 8796093022208 then (some (x3 ++ [t207])) else (none))) else (none)) else (none))
def transeptref09_Parts.j1 : Nat → ByteArray → List ByteArray → Int → Bool → Int → Bool → Option (List ByteArray)
  | 0, _, _, _, _, _, _ => none
  | k + 1, x0, x3, x4, x5, x6, x14 => if x14 = true then (transeptref09_Parts.l0 k x0 x3 x4 x5 (wrap64 ((wrap64 (x6 + 1)) + 1))) else (if 0 ≤ x6 then (if x6 < (x0.size : Int) then (if (bt x0 x6) = 34 then (transeptref09_Parts.l0 k x0 x3 x4 (!x5) (wrap64 (x6 + 1))) else (if x5 = true then (transeptref09_Parts.l0 k x0 x3 x4 x5 (wrap64 (x6 + 1))) else (if (bt x0 x6) = 44 then (if 0 ≤ x4 then (if x4 ≤ x6 then (if x6 ≤ (x0.size : Int) then ((transeptref09_Strip.f k (x0.extract (x4 : Int).toNat (x6 : Int).toNat) (⟨#[9, 32]⟩ : ByteArray)).bind fun t211 => (if x3.length < 8796093022208 then (transeptref09_Parts.l0 k x0 (x3 ++ [t211]) (wrap64 (x6 + 1)) x5 (wrap64 (x6 + 1))) else (none))) else (none)) else (none)) else (none)) else (transeptref09_Parts.l0 k x0 x3 x4 x5 (wrap64 (x6 + 1)))))) else (none)) else (none))
end
def transeptref09_Parts.f (k : Nat) (a0 : ByteArray) : Option (List ByteArray) := transeptref09_Parts.l0 k a0 (([] : List ByteArray)) 0 false 0
theorem transeptref09_Parts.mono_l : ∀ k, (∀ y0 y1 y2 y3 y4, LeO (transeptref09_Parts.l0 k y0 y1 y2 y3 y4) (transeptref09_Parts.l0 (k + 1) y0 y1 y2 y3 y4)) ∧ (∀ y0 y1 y2 y3 y4 y5, LeO (transeptref09_Parts.j1 k y0 y1 y2 y3 y4 y5) (transeptref09_Parts.j1 (k + 1) y0 y1 y2 y3 y4 y5))
  | 0 => ⟨fun _ _ _ _ _ r h => by simp [transeptref09_Parts.l0] at h, fun _ _ _ _ _ _ r h => by simp [transeptref09_Parts.j1] at h⟩
  | k + 1 => by
    obtain ⟨ih0, ih1⟩ := transeptref09_Parts.mono_l k
    refine ⟨?_, ?_⟩
    · intro y0 y1 y2 y3 y4
      unfold transeptref09_Parts.l0
      repeat' first
      | (with_reducible exact ih0 _ _ _ _ _)
      | (with_reducible exact ih1 _ _ _ _ _ _)
      | (with_reducible exact transeptref09_Strip.mono _ _ _)
      | (with_reducible exact LeO.refl _)
      | (with_reducible exact LeO.none _)
      | (with_reducible refine LeO.ite ?_ ?_)
      | (with_reducible refine LeO.bind ?_ (fun _ => ?_))
      | exact ih0 _ _ _ _ _
      | exact ih1 _ _ _ _ _ _
      | exact transeptref09_Strip.mono _ _ _
      | exact LeO.none _
      | refine LeO.ite ?_ ?_
      | refine LeO.bind ?_ (fun _ => ?_)
    · intro y0 y1 y2 y3 y4 y5
      unfold transeptref09_Parts.j1
      repeat' first
      | (with_reducible exact ih0 _ _ _ _ _)
      | (with_reducible exact ih1 _ _ _ _ _ _)
      | (with_reducible exact transeptref09_Strip.mono _ _ _)
      | (with_reducible exact LeO.refl _)
      | (with_reducible exact LeO.none _)
      | (with_reducible refine LeO.ite ?_ ?_)
      | (with_reducible refine LeO.bind ?_ (fun _ => ?_))
      | exact ih0 _ _ _ _ _
      | exact ih1 _ _ _ _ _ _
      | exact transeptref09_Strip.mono _ _ _
      | exact LeO.none _
      | refine LeO.ite ?_ ?_
      | refine LeO.bind ?_ (fun _ => ?_)
theorem transeptref09_Parts.mono : ∀ a0 k, LeO (transeptref09_Parts.f k a0) (transeptref09_Parts.f (k + 1) a0) := by
  intro a0 k
  obtain ⟨ih0, ih1⟩ := transeptref09_Parts.mono_l k
  unfold transeptref09_Parts.f
  repeat' first
      | (with_reducible exact ih0 _ _ _ _ _)
      | (with_reducible exact ih1 _ _ _ _ _ _)
      | (with_reducible exact transeptref09_Strip.mono _ _ _)
      | (with_reducible exact LeO.refl _)
      | (with_reducible exact LeO.none _)
      | (with_reducible refine LeO.ite ?_ ?_)
      | (with_reducible refine LeO.bind ?_ (fun _ => ?_))
      | exact ih0 _ _ _ _ _
      | exact ih1 _ _ _ _ _ _
      | exact transeptref09_Strip.mono _ _ _
      | exact LeO.none _
      | refine LeO.ite ?_ ?_
      | refine LeO.bind ?_ (fun _ => ?_)
set_option maxHeartbeats 8000000 in
set_option maxRecDepth 100000 in
theorem transeptref09_Parts.calls (k : Nat) (a0 : ByteArray) (r : List ByteArray) (w : World) (h : transeptref09_Parts.f k a0 = some r) :
    Calls Tryd.prog 37 #[.string a0] w fun e w' => ∃ v0_ : Value, e = .returned (v0_) ∧ Kd.R Kd.string 9 w' w.heap.size (fun _ => True) v0_ r ∧ Below w.heap.size w w' := by
  have HB := Aside0.mk (Below.refl w.heap.size w)
  have H : (transeptref09_Parts.l0 k a0 (([] : List ByteArray)) 0 false 0) = some r := h
  clear h
  obtain ⟨y204, hy204⟩ : ∃ y_ : List ByteArray, y_ = (([] : List ByteArray)) := ⟨_, rfl⟩
  replace H : (transeptref09_Parts.l0 k a0 y204 0 false 0) = some r := by first | (rw [hy204]; with_reducible exact H) | (have H2_ := (Option.bind_some _ _).symm.trans H; rw [hy204]; with_reducible exact H2_) | (have H2_ := (Option.bind_some _ _).symm.trans H; with_reducible exact H2_) | with_reducible exact H | (rw [hy204]; exact H) | exact H
  have Ny204 := Aside0.mk hy204
  clear hy204
  have H' := Aside0.mk H
  clear H
  go_enter Tryd.func37, Tryd.ntmps37
  go_wp2_with (first | ((with_reducible refine gate_dst (N := 7) rfl ?_); refine Kd.R_lit Kd.string _ 9 ?hg (N := 7) ?hd (xs := ([] : List ByteArray)) (inner := []) (ok := fun _ => True) (okp := fun _ => True) ?hr ?hp (fun _ hk => hk) trivial (Below.refl _ _) (Nat.le_refl _) (by simp) ?_; (case hd => rfl); (case hg => rfl); (case hr => first | (go_simp; done) | (go_simp; rfl)); (case hp => exact (Reps.none _ _)); intro v205 w2 ho3 hb hg_ hnew_; clear hg_ hnew_; (first | rw [← Ny204.out] at ho3 | (simp only [Int.reduceToNat] at ho3; rw [← Ny204.out] at ho3)); have n0_ := Aside0.mk (Kd.R_lower ho3 (below_size (by repeat (first | (with_reducible first | exact HB.out | apply below_alloc | apply pw_below_drewN | apply below_drew1) | exact HB.out)))); have n1_ := Aside0.mk (below_step (by repeat (first | (with_reducible first | exact HB.out | apply below_alloc | apply pw_below_drewN | apply below_drew1) | exact HB.out)) hb); clear HB; have HO206 := n0_; have HB := n1_; clear n0_ n1_; clear hb ho3))
  all_goals (try (exfalso; omega))
  go_loopg [3, 4, 5, 6] k (fun kq v3 v4 v5 v6 w' => ∃ (x3_1 : List ByteArray) (x4_1 : Int) (x5_1 : Bool) (x6_1 : Int), v4 = .int .i64 x4_1 ∧ v5 = .bool x5_1 ∧ v6 = .int .i64 x6_1 ∧ Aside0 (transeptref09_Parts.l0 kq a0 x3_1 x4_1 x5_1 x6_1 = some r) ∧ Aside0 (kq ≤ k) ∧ Aside0 (Kd.R Kd.string 9 w' w.heap.size (fun _ => True) v3 x3_1) ∧ Aside0 (Below w.heap.size w w'))
  case atStart => exact ⟨(y204), (0), (false), (0), (by first | rfl | (simp; done) | (simp [*]; done) | (congr 1; unfold wrap64; omega) | (simp; simp only [decide_eq_false_iff_not, decide_eq_true_eq] at *; congr 2; omega)), (by first | rfl | (simp; done) | (simp [*]; done) | (congr 1; unfold wrap64; omega) | (simp; simp only [decide_eq_false_iff_not, decide_eq_true_eq] at *; congr 2; omega)), (by first | rfl | (simp; done) | (simp [*]; done) | (congr 1; unfold wrap64; omega) | (simp; simp only [decide_eq_false_iff_not, decide_eq_true_eq] at *; congr 2; omega)), H', ⟨Nat.le_refl _⟩, ⟨by (with_reducible repeat (first | apply Kd.R_alloc | apply Kd.R_drewN | apply Kd.R_drew)); exact HO206.out⟩, ⟨by repeat (first | (with_reducible first | exact HB.out | apply below_alloc | apply pw_below_drewN | apply below_drew1) | exact HB.out)⟩⟩
  case round =>
    clear H'
    try clear p2
    try clear c3
    obtain ⟨x3_1, x4_1, x5_1, x6_1, rfl, rfl, rfl, HA, HK1, HO_3, HB⟩ := hrel
    cases gk with
    | zero => exact absurd HA.out (by simp [transeptref09_Parts.l0])
    | succ k1 =>
      have H := HA.out
      clear HA
      simp only [transeptref09_Parts.l0] at H
      by_cases c4 : x6_1 < (a0.size : Int)
      · rw [if_pos c4] at H
        have c4b0 : decide (x6_1 < (a0.size : Int)) = true := decide_eq_true c4
        have HC5 := Aside0.mk H
        clear H
        go_upto_region 7 with (fail)
        go_cut [14] (fun v14 wc => ∃ (kq : Nat) (x14_4 : Bool), v14 = .bool x14_4 ∧ Aside0 (transeptref09_Parts.j1 kq a0 x3_1 x4_1 x5_1 x6_1 x14_4 = some r) ∧ Aside0 (kq ≤ k1) ∧ Aside0 (Kd.R Kd.string 9 wc w.heap.size (fun _ => True) u3 x3_1) ∧ Aside0 (Below w.heap.size w wc))
        case first =>
          have H := HC5.out
          clear HC5
          by_cases c6 : x5_1 = true
          · subst c6
            have H1 : (if 0 ≤ x6_1 then (transeptref09_Parts.j1 k1 a0 x3_1 x4_1 true x6_1 ((bt a0 x6_1) == 92)) else (none)) = some r := by rw [if_pos rfl] at H; exact H
            clear H
            have H := H1
            clear H1
            by_cases c7 : 0 ≤ x6_1
            · rw [if_pos c7] at H
              have c7b0 : decide (0 ≤ x6_1) = true := decide_eq_true c7
              (first | rw [c7b0] | (simp only [i64_w, i32_w]; rw [c7b0]) | skip)
              have H' := Aside0.mk H
              clear H
              have p8 : 0 ≤ (x6_1 : Int) := of_decide_eq_true (by first | (with_reducible assumption) | assumption)
              have q8 : x6_1 < (a0.size : Int) := of_decide_eq_true (by first | (with_reducible assumption) | assumption)
              have hx8 := bt_at a0 x6_1
              replace p8 := eq_true p8
              replace q8 := eq_true q8
              go_wp2
              all_goals (try (exfalso; omega))
              go_meet
              case rel => exact ⟨_, (((bt a0 x6_1) == 92)), (by first | rfl | (simp; done) | (simp [*]; done) | (congr 1; unfold wrap64; omega) | (simp; simp only [decide_eq_false_iff_not, decide_eq_true_eq] at *; congr 2; omega)), H', ⟨by have := HK1.out; first | omega | exact Nat.le_refl _⟩, ⟨by (with_reducible repeat (first | apply Kd.R_alloc | apply Kd.R_drewN | apply Kd.R_drew)); exact HO_3.out⟩, ⟨by repeat (first | (with_reducible first | exact HB.out | apply below_alloc | apply pw_below_drewN | apply below_drew1) | exact HB.out)⟩⟩
            · rw [if_neg c7] at H
              exact absurd H (by simp)
          · replace c6 := Bool.eq_false_iff.mpr c6
            subst c6
            have H1 : (transeptref09_Parts.j1 k1 a0 x3_1 x4_1 false x6_1 false) = some r := by rw [if_neg (show ¬ (false = true) by decide)] at H; exact H
            clear H
            have H := H1
            clear H1
            have H' := Aside0.mk H
            clear H
            go_wp2
            all_goals (try (exfalso; omega))
            go_meet
            case rel => exact ⟨_, (false), (by first | rfl | (simp; done) | (simp [*]; done) | (congr 1; unfold wrap64; omega) | (simp; simp only [decide_eq_false_iff_not, decide_eq_true_eq] at *; congr 2; omega)), H', ⟨by have := HK1.out; first | omega | exact Nat.le_refl _⟩, ⟨by (with_reducible repeat (first | apply Kd.R_alloc | apply Kd.R_drewN | apply Kd.R_drew)); exact HO_3.out⟩, ⟨by repeat (first | (with_reducible first | exact HB.out | apply below_alloc | apply pw_below_drewN | apply below_drew1) | exact HB.out)⟩⟩
        case rest =>
          clear HC5
          try clear p2
          try clear c3
          try clear c4
          try clear c4b0
          try clear c6
          try clear c7
          try clear c7b0
          try clear p8
          try clear q8
          try clear hx8
          try clear p2
          try clear p8
          try clear q8
          obtain ⟨kq, x14_4, rfl, HA, HJ4, HO_3, HB⟩ := hcut
          cases kq with
          | zero => exact absurd HA.out (by simp [transeptref09_Parts.j1])
          | succ kj4 =>
            have H := HA.out
            clear HA
            simp only [transeptref09_Parts.j1] at H
            by_cases c9 : x14_4 = true
            · subst c9
              have H1 : (transeptref09_Parts.l0 kj4 a0 x3_1 x4_1 x5_1 (wrap64 ((wrap64 (x6_1 + 1)) + 1))) = some r := by rw [if_pos rfl] at H; exact H
              clear H
              have H := H1
              clear H1
              have H' := Aside0.mk H
              clear H
              go_wp2
              all_goals (try (exfalso; omega))
              go_roundg kj4
              case measure => have := HK1.out; have := HJ4.out; omega
              case rel => exact ⟨(x3_1), (x4_1), (x5_1), (wrap64 ((wrap64 (x6_1 + 1)) + 1)), (by first | rfl | (simp; done) | (simp [*]; done) | (congr 1; unfold wrap64; omega) | (simp; simp only [decide_eq_false_iff_not, decide_eq_true_eq] at *; congr 2; omega)), (by first | rfl | (simp; done) | (simp [*]; done) | (congr 1; unfold wrap64; omega) | (simp; simp only [decide_eq_false_iff_not, decide_eq_true_eq] at *; congr 2; omega)), (by first | rfl | (simp; done) | (simp [*]; done) | (congr 1; unfold wrap64; omega) | (simp; simp only [decide_eq_false_iff_not, decide_eq_true_eq] at *; congr 2; omega)), H', ⟨by have := HK1.out; have := HJ4.out; omega⟩, ⟨by (with_reducible repeat (first | apply Kd.R_alloc | apply Kd.R_drewN | apply Kd.R_drew)); exact HO_3.out⟩, ⟨by repeat (first | (with_reducible first | exact HB.out | apply below_alloc | apply pw_below_drewN | apply below_drew1) | exact HB.out)⟩⟩
            · replace c9 := Bool.eq_false_iff.mpr c9
              subst c9
              have H1 : (if 0 ≤ x6_1 then (if x6_1 < (a0.size : Int) then (if (bt a0 x6_1) = 34 then (transeptref09_Parts.l0 kj4 a0 x3_1 x4_1 (!x5_1) (wrap64 (x6_1 + 1))) else (if x5_1 = true then (transeptref09_Parts.l0 kj4 a0 x3_1 x4_1 x5_1 (wrap64 (x6_1 + 1))) else (if (bt a0 x6_1) = 44 then (if 0 ≤ x4_1 then (if x4_1 ≤ x6_1 then (if x6_1 ≤ (a0.size : Int) then ((transeptref09_Strip.f kj4 (a0.extract (x4_1 : Int).toNat (x6_1 : Int).toNat) (⟨#[9, 32]⟩ : ByteArray)).bind fun t211 => (if x3_1.length < 8796093022208 then (transeptref09_Parts.l0 kj4 a0 (x3_1 ++ [t211]) (wrap64 (x6_1 + 1)) x5_1 (wrap64 (x6_1 + 1))) else (none))) else (none)) else (none)) else (none)) else (transeptref09_Parts.l0 kj4 a0 x3_1 x4_1 x5_1 (wrap64 (x6_1 + 1)))))) else (none)) else (none)) = some r := by rw [if_neg (show ¬ (false = true) by decide)] at H; exact H
              clear H
              have H := H1
              clear H1
              by_cases c10 : 0 ≤ x6_1
              · rw [if_pos c10] at H
                have c10b0 : decide (0 ≤ x6_1) = true := decide_eq_true c10
                by_cases c11 : x6_1 < (a0.size : Int)
                · rw [if_pos c11] at H
                  have c11b0 : decide (x6_1 < (a0.size : Int)) = true := decide_eq_true c11
                  by_cases c13 : (bt a0 x6_1) = 34
                  · rw [if_pos c13] at H
                    have c13b0 : ((bt a0 x6_1) == 34) = true := beq_iff_eq.mpr c13
                    have c13b1 : ((bt a0 x6_1) != 34) = false := bne_eq_false_iff_eq.mpr c13
                    clear c13
                    have H' := Aside0.mk H
                    clear H
                    have p12 : 0 ≤ (x6_1 : Int) := of_decide_eq_true (by first | (with_reducible assumption) | assumption)
                    have q12 : x6_1 < (a0.size : Int) := of_decide_eq_true (by first | (with_reducible assumption) | assumption)
                    have hx12 := bt_at a0 x6_1
                    replace p12 := eq_true p12
                    replace q12 := eq_true q12
                    go_wp2
                    all_goals (try (exfalso; omega))
                    go_roundg kj4
                    case measure => have := HK1.out; have := HJ4.out; omega
                    case rel => exact ⟨(x3_1), (x4_1), (!x5_1), (wrap64 (x6_1 + 1)), (by first | rfl | (simp; done) | (simp [*]; done) | (congr 1; unfold wrap64; omega) | (simp; simp only [decide_eq_false_iff_not, decide_eq_true_eq] at *; congr 2; omega)), (by first | rfl | (simp; done) | (simp [*]; done) | (congr 1; unfold wrap64; omega) | (simp; simp only [decide_eq_false_iff_not, decide_eq_true_eq] at *; congr 2; omega)), (by first | rfl | (simp; done) | (simp [*]; done) | (congr 1; unfold wrap64; omega) | (simp; simp only [decide_eq_false_iff_not, decide_eq_true_eq] at *; congr 2; omega)), H', ⟨by have := HK1.out; have := HJ4.out; omega⟩, ⟨by (with_reducible repeat (first | apply Kd.R_alloc | apply Kd.R_drewN | apply Kd.R_drew)); exact HO_3.out⟩, ⟨by repeat (first | (with_reducible first | exact HB.out | apply below_alloc | apply pw_below_drewN | apply below_drew1) | exact HB.out)⟩⟩
                  · rw [if_neg c13] at H
                    have c13b0 : ((bt a0 x6_1) == 34) = false := beq_eq_false_iff_ne.mpr c13
                    have c13b1 : ((bt a0 x6_1) != 34) = true := bne_iff_ne.mpr c13
                    by_cases c14 : x5_1 = true
                    · subst c14
                      have H1 : (transeptref09_Parts.l0 kj4 a0 x3_1 x4_1 true (wrap64 (x6_1 + 1))) = some r := by rw [if_pos rfl] at H; exact H
                      clear H
                      have H := H1
                      clear H1
                      have H' := Aside0.mk H
                      clear H
                      have p12 : 0 ≤ (x6_1 : Int) := of_decide_eq_true (by first | (with_reducible assumption) | assumption)
                      have q12 : x6_1 < (a0.size : Int) := of_decide_eq_true (by first | (with_reducible assumption) | assumption)
                      have hx12 := bt_at a0 x6_1
                      replace p12 := eq_true p12
                      replace q12 := eq_true q12
                      go_wp2
                      all_goals (try (exfalso; omega))
                      go_roundg kj4
                      case measure => have := HK1.out; have := HJ4.out; omega
                      case rel => exact ⟨(x3_1), (x4_1), (true), (wrap64 (x6_1 + 1)), (by first | rfl | (simp; done) | (simp [*]; done) | (congr 1; unfold wrap64; omega) | (simp; simp only [decide_eq_false_iff_not, decide_eq_true_eq] at *; congr 2; omega)), (by first | rfl | (simp; done) | (simp [*]; done) | (congr 1; unfold wrap64; omega) | (simp; simp only [decide_eq_false_iff_not, decide_eq_true_eq] at *; congr 2; omega)), (by first | rfl | (simp; done) | (simp [*]; done) | (congr 1; unfold wrap64; omega) | (simp; simp only [decide_eq_false_iff_not, decide_eq_true_eq] at *; congr 2; omega)), H', ⟨by have := HK1.out; have := HJ4.out; omega⟩, ⟨by (with_reducible repeat (first | apply Kd.R_alloc | apply Kd.R_drewN | apply Kd.R_drew)); exact HO_3.out⟩, ⟨by repeat (first | (with_reducible first | exact HB.out | apply below_alloc | apply pw_below_drewN | apply below_drew1) | exact HB.out)⟩⟩
                    · replace c14 := Bool.eq_false_iff.mpr c14
                      subst c14
                      have H1 : (if (bt a0 x6_1) = 44 then (if 0 ≤ x4_1 then (if x4_1 ≤ x6_1 then (if x6_1 ≤ (a0.size : Int) then ((transeptref09_Strip.f kj4 (a0.extract (x4_1 : Int).toNat (x6_1 : Int).toNat) (⟨#[9, 32]⟩ : ByteArray)).bind fun t211 => (if x3_1.length < 8796093022208 then (transeptref09_Parts.l0 kj4 a0 (x3_1 ++ [t211]) (wrap64 (x6_1 + 1)) false (wrap64 (x6_1 + 1))) else (none))) else (none)) else (none)) else (none)) else (transeptref09_Parts.l0 kj4 a0 x3_1 x4_1 false (wrap64 (x6_1 + 1)))) = some r := by rw [if_neg (show ¬ (false = true) by decide)] at H; exact H
                      clear H
                      have H := H1
                      clear H1
                      by_cases c16 : (bt a0 x6_1) = 44
                      · rw [if_pos c16] at H
                        have c16b0 : ((bt a0 x6_1) == 44) = true := beq_iff_eq.mpr c16
                        have c16b1 : ((bt a0 x6_1) != 44) = false := bne_eq_false_iff_eq.mpr c16
                        clear c16
                        by_cases c17 : 0 ≤ x4_1
                        · rw [if_pos c17] at H
                          have c17b0 := eq_true c17
                          have c17b1 : decide (0 ≤ x4_1) = true := decide_eq_true c17
                          by_cases c18 : x4_1 ≤ x6_1
                          · rw [if_pos c18] at H
                            have c18b0 := eq_true c18
                            have c18b1 : decide (x4_1 ≤ x6_1) = true := decide_eq_true c18
                            by_cases c19 : x6_1 ≤ (a0.size : Int)
                            · rw [if_pos c19] at H
                              have c19b0 := eq_true c19
                              have c19b1 : decide (x6_1 ≤ (a0.size : Int)) = true := decide_eq_true c19
                              replace H := Option.bind_eq_some_iff.mp H
                              obtain ⟨t211, A200, H⟩ := H
                              replace H : (if x3_1.length < 8796093022208 then (transeptref09_Parts.l0 kj4 a0 (x3_1 ++ [t211]) (wrap64 (x6_1 + 1)) false (wrap64 (x6_1 + 1))) else (none)) = some r := H
                              have A20 := Aside0.mk A200
                              clear A200
                              by_cases c21 : x3_1.length < 8796093022208
                              · rw [if_pos c21] at H
                                have LMc21 := Aside0.mk c21
                                obtain ⟨y212, hy212⟩ : ∃ y_ : List ByteArray, y_ = (x3_1 ++ [t211]) := ⟨_, rfl⟩
                                replace H : (transeptref09_Parts.l0 kj4 a0 y212 (wrap64 (x6_1 + 1)) false (wrap64 (x6_1 + 1))) = some r := by first | (rw [hy212]; with_reducible exact H) | (have H2_ := (Option.bind_some _ _).symm.trans H; rw [hy212]; with_reducible exact H2_) | (have H2_ := (Option.bind_some _ _).symm.trans H; with_reducible exact H2_) | with_reducible exact H | (rw [hy212]; exact H) | exact H
                                have Ny212 := Aside0.mk hy212
                                clear hy212
                                have H' := Aside0.mk H
                                clear H
                                have p12 : 0 ≤ (x6_1 : Int) := of_decide_eq_true (by first | (with_reducible assumption) | assumption)
                                have q12 : x6_1 < (a0.size : Int) := of_decide_eq_true (by first | (with_reducible assumption) | assumption)
                                have hx12 := bt_at a0 x6_1
                                replace p12 := eq_true p12
                                replace q12 := eq_true q12
                                have p15 : 0 ≤ (x6_1 : Int) := of_decide_eq_true (by first | (with_reducible assumption) | assumption)
                                have q15 : x6_1 < (a0.size : Int) := of_decide_eq_true (by first | (with_reducible assumption) | assumption)
                                have hx15 := bt_at a0 x6_1
                                replace p15 := eq_true p15
                                replace q15 := eq_true q15
                                go_wp2_with (first | ((with_reducible refine gate_callee (f := 29) rfl ?_); refine goesL_ (some 45) rfl rfl Tryd.func29 (by kernel_rfl) rfl #[.string (a0.extract (x4_1 : Int).toNat (x6_1 : Int).toNat), .string (⟨#[9, 32]⟩ : ByteArray)] rfl (by (try simp only [List.map_toArray, List.map_cons, List.map_nil]); first | done | rfl | (simp only [List.length_drop, List.length_take]; rfl)) ?_; (with_reducible refine (transeptref09_Strip.calls kj4 (a0.extract (x4_1 : Int).toNat (x6_1 : Int).toNat) (⟨#[9, 32]⟩ : ByteArray) t211 _ A20.out).mono ?_); rintro e w' ⟨rfl, ⟨nd, rfl⟩⟩; refine ⟨_, rfl, ?_⟩) | ((with_reducible refine gate_builtin (b := .append) (xs := #[.tmp 40, .tmp 46]) rfl ?_); at_builtin; refine Kd.R_append Kd.string (w0 := w) w.heap.size rfl (.tmp 40) (.tmp 46) 41 9 (.string ⟨#[]⟩) 16 rfl Tryd.underlying41 info9 rfl (by decide) (by omega) u3 x3_1 t211 [.string t211] (fun _ => True) (fun _ => False) rfl rfl ?aP (fun _ hk => hk.elim) ?aF ?aO ?aB ?aS ?aL ?_; (case aP => exact rfl); (case aB => exact (by repeat (first | (with_reducible first | exact HB.out | apply below_alloc | apply pw_below_drewN | apply below_drew1) | exact HB.out))); (case aF => exact (fun _ _ => trivial)); (case aO => exact (by (with_reducible repeat (first | apply Kd.R_alloc | apply Kd.R_drewN | apply Kd.R_drew)); exact HO_3.out)); (case aS => exact (below_size (by repeat (first | (with_reducible first | exact HB.out | apply below_alloc | apply pw_below_drewN | apply below_drew1) | exact HB.out)))); (case aL => have := LMc21.out; omega); intro v213 w22 ho hb hg hat; rw [← Ny212.out] at ho; have n0_ := Aside0.mk (hb); have n1_ := Aside0.mk (ho); clear HB; clear HO_3; have HB := n0_; have HO214 := n1_; clear n0_ n1_; clear ho hb hg hat))
                                all_goals (try (exfalso; omega))
                                go_roundg kj4
                                case measure => have := HK1.out; have := HJ4.out; omega
                                case rel => exact ⟨(y212), (wrap64 (x6_1 + 1)), (false), (wrap64 (x6_1 + 1)), (by first | rfl | (simp; done) | (simp [*]; done) | (congr 1; unfold wrap64; omega) | (simp; simp only [decide_eq_false_iff_not, decide_eq_true_eq] at *; congr 2; omega)), (by first | rfl | (simp; done) | (simp [*]; done) | (congr 1; unfold wrap64; omega) | (simp; simp only [decide_eq_false_iff_not, decide_eq_true_eq] at *; congr 2; omega)), (by first | rfl | (simp; done) | (simp [*]; done) | (congr 1; unfold wrap64; omega) | (simp; simp only [decide_eq_false_iff_not, decide_eq_true_eq] at *; congr 2; omega)), H', ⟨by have := HK1.out; have := HJ4.out; omega⟩, ⟨by (with_reducible repeat (first | apply Kd.R_alloc | apply Kd.R_drewN | apply Kd.R_drew)); exact HO214.out⟩, ⟨by repeat (first | (with_reducible first | exact HB.out | apply below_alloc | apply pw_below_drewN | apply below_drew1) | exact HB.out)⟩⟩
                              · rw [if_neg c21] at H
                                exact absurd H (by simp)
                            · rw [if_neg c19] at H
                              exact absurd H (by simp)
                          · rw [if_neg c18] at H
                            exact absurd H (by simp)
                        · rw [if_neg c17] at H
                          exact absurd H (by simp)
                      · rw [if_neg c16] at H
                        have c16b0 : ((bt a0 x6_1) == 44) = false := beq_eq_false_iff_ne.mpr c16
                        have c16b1 : ((bt a0 x6_1) != 44) = true := bne_iff_ne.mpr c16
                        have H' := Aside0.mk H
                        clear H
                        have p12 : 0 ≤ (x6_1 : Int) := of_decide_eq_true (by first | (with_reducible assumption) | assumption)
                        have q12 : x6_1 < (a0.size : Int) := of_decide_eq_true (by first | (with_reducible assumption) | assumption)
                        have hx12 := bt_at a0 x6_1
                        replace p12 := eq_true p12
                        replace q12 := eq_true q12
                        have p15 : 0 ≤ (x6_1 : Int) := of_decide_eq_true (by first | (with_reducible assumption) | assumption)
                        have q15 : x6_1 < (a0.size : Int) := of_decide_eq_true (by first | (with_reducible assumption) | assumption)
                        have hx15 := bt_at a0 x6_1
                        replace p15 := eq_true p15
                        replace q15 := eq_true q15
                        go_wp2
                        all_goals (try (exfalso; omega))
                        go_roundg kj4
                        case measure => have := HK1.out; have := HJ4.out; omega
                        case rel => exact ⟨(x3_1), (x4_1), (false), (wrap64 (x6_1 + 1)), (by first | rfl | (simp; done) | (simp [*]; done) | (congr 1; unfold wrap64; omega) | (simp; simp only [decide_eq_false_iff_not, decide_eq_true_eq] at *; congr 2; omega)), (by first | rfl | (simp; done) | (simp [*]; done) | (congr 1; unfold wrap64; omega) | (simp; simp only [decide_eq_false_iff_not, decide_eq_true_eq] at *; congr 2; omega)), (by first | rfl | (simp; done) | (simp [*]; done) | (congr 1; unfold wrap64; omega) | (simp; simp only [decide_eq_false_iff_not, decide_eq_true_eq] at *; congr 2; omega)), H', ⟨by have := HK1.out; have := HJ4.out; omega⟩, ⟨by (with_reducible repeat (first | apply Kd.R_alloc | apply Kd.R_drewN | apply Kd.R_drew)); exact HO_3.out⟩, ⟨by repeat (first | (with_reducible first | exact HB.out | apply below_alloc | apply pw_below_drewN | apply below_drew1) | exact HB.out)⟩⟩
                · rw [if_neg c11] at H
                  exact absurd H (by simp)
              · rw [if_neg c10] at H
                exact absurd H (by simp)
      · rw [if_neg c4] at H
        have c4b0 : decide (x6_1 < (a0.size : Int)) = false := decide_eq_false c4
        by_cases c23 : 0 ≤ x4_1
        · rw [if_pos c23] at H
          have c23b0 := eq_true c23
          have c23b1 : decide (0 ≤ x4_1) = true := decide_eq_true c23
          by_cases c24 : x4_1 ≤ (a0.size : Int)
          · rw [if_pos c24] at H
            have c24b0 := eq_true c24
            have c24b1 : decide (x4_1 ≤ (a0.size : Int)) = true := decide_eq_true c24
            replace H := Option.bind_eq_some_iff.mp H
            obtain ⟨t207, A250, H⟩ := H
            replace H : (if x3_1.length < 8796093022208 then (some (x3_1 ++ [t207])) else (none)) = some r := H
            have A25 := Aside0.mk A250
            clear A250
            by_cases c26 : x3_1.length < 8796093022208
            · rw [if_pos c26] at H
              have LMc26 := Aside0.mk c26
              obtain ⟨y208, hy208⟩ : ∃ y_ : List ByteArray, y_ = (x3_1 ++ [t207]) := ⟨_, rfl⟩
              replace H : (some y208) = some r := by first | (rw [hy208]; with_reducible exact H) | (have H2_ := (Option.bind_some _ _).symm.trans H; rw [hy208]; with_reducible exact H2_) | (have H2_ := (Option.bind_some _ _).symm.trans H; with_reducible exact H2_) | with_reducible exact H | (rw [hy208]; exact H) | exact H
              have Ny208 := Aside0.mk hy208
              clear hy208
              obtain rfl := Option.some.inj H
              go_wp2_with (first | ((with_reducible refine gate_callee (f := 29) rfl ?_); refine goesL_ (some 54) rfl rfl Tryd.func29 (by kernel_rfl) rfl #[.string (a0.extract (x4_1 : Int).toNat a0.size), .string (⟨#[9, 32]⟩ : ByteArray)] rfl (by (try simp only [List.map_toArray, List.map_cons, List.map_nil]); first | done | rfl | (simp only [List.length_drop, List.length_take]; rfl)) ?_; (with_reducible refine (transeptref09_Strip.calls k1 (a0.extract (x4_1 : Int).toNat a0.size) (⟨#[9, 32]⟩ : ByteArray) t207 _ A25.out).mono ?_); rintro e w' ⟨rfl, ⟨nd, rfl⟩⟩; refine ⟨_, rfl, ?_⟩) | ((with_reducible refine gate_builtin (b := .append) (xs := #[.tmp 50, .tmp 55]) rfl ?_); at_builtin; refine Kd.R_append Kd.string (w0 := w) w.heap.size rfl (.tmp 50) (.tmp 55) 41 9 (.string ⟨#[]⟩) 16 rfl Tryd.underlying41 info9 rfl (by decide) (by omega) u3 x3_1 t207 [.string t207] (fun _ => True) (fun _ => False) rfl rfl ?aP (fun _ hk => hk.elim) ?aF ?aO ?aB ?aS ?aL ?_; (case aP => exact rfl); (case aB => exact (by repeat (first | (with_reducible first | exact HB.out | apply below_alloc | apply pw_below_drewN | apply below_drew1) | exact HB.out))); (case aF => exact (fun _ _ => trivial)); (case aO => exact (by (with_reducible repeat (first | apply Kd.R_alloc | apply Kd.R_drewN | apply Kd.R_drew)); exact HO_3.out)); (case aS => exact (below_size (by repeat (first | (with_reducible first | exact HB.out | apply below_alloc | apply pw_below_drewN | apply below_drew1) | exact HB.out)))); (case aL => have := LMc26.out; omega); intro v209 w27 ho hb hg hat; rw [← Ny208.out] at ho; have n0_ := Aside0.mk (hb); have n1_ := Aside0.mk (ho); clear HB; clear HO_3; have HB := n0_; have HO210 := n1_; clear n0_ n1_; clear ho hb hg hat))
              all_goals (try (exfalso; omega))
              all_goals go_ret
              all_goals exact ⟨_, by first | rfl | (simp [errW_none, errW_some] <;> rfl) | (simp [*, errW_none, errW_some] <;> rfl), by (with_reducible repeat (first | apply Kd.R_alloc | apply Kd.R_drewN | apply Kd.R_drew)); exact HO210.out, by repeat (first | (with_reducible first | exact HB.out | apply below_alloc | apply pw_below_drewN | apply below_drew1) | exact HB.out)⟩
            · rw [if_neg c26] at H
              exact absurd H (by simp)
          · rw [if_neg c24] at H
            exact absurd H (by simp)
        · rw [if_neg c23] at H
          exact absurd H (by simp)

/-! ### transeptref10_Split: function 24 -/
def transeptref10_Split.f (k : Nat) (l0 : List (S48)) (a1 : ByteArray) : Option (List ByteArray × Bool) := (transeptref10_Get.f k l0 a1).bind fun bt215 => (if bt215.2 = true then ((transeptref09_Parts.f k bt215.1).bind fun t217 => (some (t217, true))) else (some (([] : List ByteArray), false)))
theorem transeptref10_Split.mono : ∀ a0 a1 k, LeO (transeptref10_Split.f k a0 a1) (transeptref10_Split.f (k + 1) a0 a1) := by
  intro a0 a1 k
  unfold transeptref10_Split.f
  repeat' first
      | (with_reducible exact transeptref09_Parts.mono _ _)
      | (with_reducible exact transeptref10_Get.mono _ _ _)
      | (with_reducible exact LeO.refl _)
      | (with_reducible exact LeO.none _)
      | (with_reducible refine LeO.ite ?_ ?_)
      | (with_reducible refine LeO.bind ?_ (fun _ => ?_))
      | exact transeptref09_Parts.mono _ _
      | exact transeptref10_Get.mono _ _ _
      | exact LeO.none _
      | refine LeO.ite ?_ ?_
      | refine LeO.bind ?_ (fun _ => ?_)
set_option maxHeartbeats 8000000 in
set_option maxRecDepth 100000 in
theorem transeptref10_Split.calls (k : Nat) (A0 : Option Addr) (c0 : Nat) (l0 : List (S48)) (a1 : ByteArray) (r1 : List ByteArray) (r2 : Bool) (w : World) (hr0 : Kd.C k48 w A0 l0.length l0) (hc0 : l0.length ≤ c0) (h : transeptref10_Split.f k l0 a1 = some (r1, r2)) :
    Calls Tryd.prog 24 #[.slice A0 l0.length c0, .string a1] w fun e w' => ∃ v0_ : Value, e = .returned (.tuple #[v0_, .bool r2]) ∧ Kd.R Kd.string 9 w' w.heap.size (fun _ => True) v0_ r1 ∧ Below w.heap.size w w' := by
  have HR0 := Aside0.mk hr0
  have HC0 := Aside0.mk hc0
  clear hr0 hc0
  have HB := Aside0.mk (Below.refl w.heap.size w)
  have H : ((transeptref10_Get.f k l0 a1).bind fun bt215 => (if bt215.2 = true then ((transeptref09_Parts.f k bt215.1).bind fun t217 => (some (t217, true))) else (some (([] : List ByteArray), false)))) = some (r1, r2) := h
  clear h
  replace H := Option.bind_eq_some_iff.mp H
  obtain ⟨⟨t215, t216⟩, A30, H⟩ := H
  replace H : (if t216 = true then ((transeptref09_Parts.f k t215).bind fun t217 => (some (t217, true))) else (some (([] : List ByteArray), false))) = some (r1, r2) := H
  have A3 := Aside0.mk A30
  clear A30
  by_cases c4 : t216 = true
  · subst c4
    have H1 : ((transeptref09_Parts.f k t215).bind fun t217 => (some (t217, true))) = some (r1, r2) := by rw [if_pos rfl] at H; exact H
    clear H
    have H := H1
    clear H1
    replace H := Option.bind_eq_some_iff.mp H
    obtain ⟨t217, A50, H⟩ := H
    replace H : (some (t217, true)) = some (r1, r2) := H
    have A5 := Aside0.mk A50
    clear A50
    simp only [Option.some.injEq, Prod.mk.injEq] at H
    obtain ⟨rfl, rfl⟩ := H
    go_enter Tryd.func24, Tryd.ntmps24
    go_wp2_with (first | ((with_reducible refine gate_callee (f := 36) rfl ?_); refine goesL_ (some 11) rfl rfl Tryd.func36 (by kernel_rfl) rfl #[.slice A0 l0.length c0, .string a1] rfl (by (try simp only [List.map_toArray, List.map_cons, List.map_nil]); first | done | rfl | (simp only [List.length_drop, List.length_take]; rfl)) ?_; (with_reducible refine (transeptref10_Get.calls k _ _ l0 a1 t215 true _ ?side1 ?side2 A3.out).mono ?_); (case side1 => repeat (first | exact HR0.out | (with_reducible refine Kd.C_alloc ?_ _) | (with_reducible refine Kd.C_drewN ?_ _) | (with_reducible refine Kd.C_drew ?_))); (case side2 => exact HC0.out); rintro e w6 ⟨rfl, hb⟩; refine ⟨_, rfl, ?_⟩; have n0_ := Aside0.mk (below_step (by repeat (first | (with_reducible first | exact HB.out | apply below_alloc | apply pw_below_drewN | apply below_drew1) | exact HB.out)) hb); clear HB; have HB := n0_; clear n0_; (try clear hb); (try clear hb2); (try clear hk); (try clear hi)) | ((with_reducible refine gate_callee (f := 37) rfl ?_); refine goesL_ (some 17) rfl rfl Tryd.func37 (by kernel_rfl) rfl #[.string t215] rfl (by (try simp only [List.map_toArray, List.map_cons, List.map_nil]); first | done | rfl | (simp only [List.length_drop, List.length_take]; rfl)) ?_; (with_reducible refine (transeptref09_Parts.calls k t215 t217 _ A5.out).mono ?_); rintro e w7 ⟨v218, rfl, ho0, hb⟩; refine ⟨_, rfl, ?_⟩; have n0_ := Aside0.mk (Kd.R_lower ho0 (below_size (by repeat (first | (with_reducible first | exact HB.out | apply below_alloc | apply pw_below_drewN | apply below_drew1) | exact HB.out)))); have n1_ := Aside0.mk (below_step (by repeat (first | (with_reducible first | exact HB.out | apply below_alloc | apply pw_below_drewN | apply below_drew1) | exact HB.out)) hb); clear HB; have HO219 := n0_; have HB := n1_; clear n0_ n1_; (try clear hb); (try clear hb2); (try clear hk); (try clear hi); (try clear ho0)))
    all_goals (try (exfalso; omega))
    go_ret2
    exact ⟨_, by first | rfl | (simp [errW_none, errW_some] <;> rfl) | (simp [*, errW_none, errW_some] <;> rfl), by (with_reducible repeat (first | apply Kd.R_alloc | apply Kd.R_drewN | apply Kd.R_drew)); exact HO219.out, by repeat (first | (with_reducible first | exact HB.out | apply below_alloc | apply pw_below_drewN | apply below_drew1) | exact HB.out)⟩
  · replace c4 := Bool.eq_false_iff.mpr c4
    subst c4
    have H1 : (some (([] : List ByteArray), false)) = some (r1, r2) := by rw [if_neg (show ¬ (false = true) by decide)] at H; exact H
    clear H
    have H := H1
    clear H1
    simp only [Option.some.injEq, Prod.mk.injEq] at H
    obtain ⟨rfl, rfl⟩ := H
    go_enter Tryd.func24, Tryd.ntmps24
    go_wp2_with (first | ((with_reducible refine gate_callee (f := 36) rfl ?_); refine goesL_ (some 11) rfl rfl Tryd.func36 (by kernel_rfl) rfl #[.slice A0 l0.length c0, .string a1] rfl (by (try simp only [List.map_toArray, List.map_cons, List.map_nil]); first | done | rfl | (simp only [List.length_drop, List.length_take]; rfl)) ?_; (with_reducible refine (transeptref10_Get.calls k _ _ l0 a1 t215 false _ ?side1 ?side2 A3.out).mono ?_); (case side1 => repeat (first | exact HR0.out | (with_reducible refine Kd.C_alloc ?_ _) | (with_reducible refine Kd.C_drewN ?_ _) | (with_reducible refine Kd.C_drew ?_))); (case side2 => exact HC0.out); rintro e w8 ⟨rfl, hb⟩; refine ⟨_, rfl, ?_⟩; have n0_ := Aside0.mk (below_step (by repeat (first | (with_reducible first | exact HB.out | apply below_alloc | apply pw_below_drewN | apply below_drew1) | exact HB.out)) hb); clear HB; have HB := n0_; clear n0_; (try clear hb); (try clear hb2); (try clear hk); (try clear hi)))
    all_goals (try (exfalso; omega))
    go_ret2
    exact ⟨_, by first | rfl | (simp [errW_none, errW_some] <;> rfl) | (simp [*, errW_none, errW_some] <;> rfl), by first | exact Kd.R_nil _ _ _ _ _ | exact Kd.N_nil _ _ _ _ _ | exact Kd.V_nil _ _ _ _ _ | exact Kd.Q_nil _ _ _ _ _ | exact Kd.S_nil _ _ _ _ _, by repeat (first | (with_reducible first | exact HB.out | apply below_alloc | apply pw_below_drewN | apply below_drew1) | exact HB.out)⟩

end Go.Proofs.YtkljbmomafeibaaDoor.Fun
