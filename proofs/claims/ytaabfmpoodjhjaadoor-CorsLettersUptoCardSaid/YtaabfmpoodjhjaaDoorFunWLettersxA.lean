-- Written by xprint.py and prunelaw.py, programs of this work's, by means of the kit's print. Not trusted: Lean checks it.
import Derived.Test.YtaabfmpoodjhjaaDoorFunxA
namespace Go.Proofs.YtaabfmpoodjhjaaDoor.Fun
open Go.RowKit Go.Proofs.YtaabfmpoodjhjaaDoorW.PrintWords Go.Proofs.YtaabfmpoodjhjaaDoorW.PrintLast Go.Proofs.YtaabfmpoodjhjaaDoorW.PrintMore
attribute [local go_sem] max2_int min2_int max_two min_two max_three min_three max_four min_four   -- for this text's walks alone
set_option linter.unusedVariables false
set_option linter.unusedSimpArgs false

/-! ### transeptlaw17_CorsLetters: function 6 -/
def transeptlaw17_CorsLetters.l0 : Nat → ByteArray → Bool → List (S40) → ByteArray → Bool → List (S40) → Int → Option (Bool)
  | 0, _, _, _, _, _, _, _ => none
  | k + 1, x0, x1, x2, x3, x9, x10, x11 => if x11 < (x2.length : Int) then (if 0 ≤ x11 then ((Ext.token_Lower.f ((rd_T40 x2 x11).f0)).bind fun t371 => (if x10.length < 4398046511104 then (transeptlaw17_CorsLetters.l0 k x0 x1 x2 x3 x9 (x10 ++ [(⟨t371, (rd_T40 x2 x11).f1⟩ : S40)]) (wrap64 (x11 + 1))) else (none))) else (none)) else ((Ext.token_Lower.f x3).bind fun t376 => (if x9 = true then ((cors_Check.f k x0 x1 x2).bind fun t377 => ((cors_Check.f k x0 x1 x10).bind fun t378 => (if (t377 == t378) = true then ((cors_Age.f k x2).bind fun t379 => ((cors_Age.f k x10).bind fun t380 => (if t379 = t380 then ((cors_Exposes.f k x3 x1 x2).bind fun t381 => ((cors_Exposes.f k t376 x1 x10).bind fun t382 => (if (t381 == t382) = true then ((cors_Preflight.f k x0 x1 (⟨#[80, 85, 84]⟩ : ByteArray) (([x3] : List ByteArray)) 200 x2).bind fun t386 => ((cors_Preflight.f k x0 x1 (⟨#[112, 117, 116]⟩ : ByteArray) (([t376] : List ByteArray)) 200 x10).bind fun t390 => (if (t386 == t390) = true then ((cors_Exposes.f k x3 true x2).bind fun t391 => (if t391 = true then ((cors_Exposes.f k x3 false x2).bind fun t392 => (some t392)) else (some true))) else (some false)))) else (some false)))) else (some false)))) else (some false)))) else (some false)))
def transeptlaw17_CorsLetters.f (k : Nat) (a0 : ByteArray) (a1 : Bool) (l2 : List (S40)) (a3 : ByteArray) : Option (Bool) := (transeptlaw17_shown.f k).bind fun t363 => ((transeptlaw17_few.f k l2).bind fun bt364 => (transeptlaw17_CorsLetters.l0 k a0 a1 bt364.1 a3 t363 ([] : List (S40)) 0))
def transeptlaw17_CorsLetters.T7 : Bool × List (List Nat × List Nat) := (true, [([], []), ([], []), ([], []), ([1, 2], [1, 2]), ([3], [3]), ([4], [4]), ([5], [5]), ([], []), ([], []), ([7, 8], [7, 8]), ([9], [9]), ([10], [10]), ([6, 11], [6, 11]), ([12], [12]), ([0, 13, 6], [0, 13]), ([14, 14, 0, 1, 2, 3, 4, 5, 6, 7, 8, 9, 10, 11, 12, 13, 14], [0, 14])])
def transeptlaw17_CorsLetters.B7 : List Nat := [0, 0, 0, 6, 14, 30, 62, 0, 0, 384, 896, 1920, 4094, 8190, 16383, 32767]
theorem transeptlaw17_CorsLetters.tab7 : rtab .any (opsOf Tryd.f6 7) = transeptlaw17_CorsLetters.T7 := by kernel_rfl
theorem transeptlaw17_CorsLetters.bits7 : waitsOk transeptlaw17_CorsLetters.T7.2 transeptlaw17_CorsLetters.B7 = true := by kernel_rfl
set_option maxHeartbeats 8000000 in
set_option maxRecDepth 100000 in
theorem transeptlaw17_CorsLetters.calls (k : Nat) (a0 : ByteArray) (a1 : Bool) (A2 : Option Addr) (c2 : Nat) (l2 : List (S40)) (a3 : ByteArray) (_r : Bool) (w : World) (hT : Ext.Tabs w) (hr2 : Kd.C k40 w A2 l2.length l2) (hc2 : l2.length ≤ c2) (h : transeptlaw17_CorsLetters.f k a0 a1 l2 a3 = some true) :
    Calls Tryd.prog 6 #[.string a0, .bool a1, .slice A2 l2.length c2, .string a3] w fun e w' => e = .returned (.bool true) ∧ Below w.heap.size w w' := by
  have hu40 := Tryd.underlying40
  have HR2 := Aside0.mk hr2
  have HC2 := Aside0.mk hc2
  clear hr2 hc2
  have HB := Aside0.mk (Below.refl w.heap.size w)
  have HT := Aside0.mk hT
  clear hT
  have H : ((transeptlaw17_shown.f k).bind fun t363 => ((transeptlaw17_few.f k l2).bind fun bt364 => (transeptlaw17_CorsLetters.l0 k a0 a1 bt364.1 a3 t363 ([] : List (S40)) 0))) = some true := h
  clear h
  replace H := Option.bind_eq_some_iff.mp H
  obtain ⟨t363, A50, H⟩ := H
  replace H : ((transeptlaw17_few.f k l2).bind fun bt364 => (transeptlaw17_CorsLetters.l0 k a0 a1 bt364.1 a3 t363 ([] : List (S40)) 0)) = some true := H
  have A5 := Aside0.mk A50
  clear A50
  replace H := Option.bind_eq_some_iff.mp H
  obtain ⟨⟨t364, t365⟩, A60, H⟩ := H
  replace H : (transeptlaw17_CorsLetters.l0 k a0 a1 t364 a3 t363 ([] : List (S40)) 0) = some true := H
  have A6 := Aside0.mk A60
  clear A60
  have H' := Aside0.mk H
  clear H
  go_enter Tryd.func6, Tryd.ntmps6
  go_wp2_with (first | ((with_reducible refine gate_callee (f := 10) rfl ?_); refine goesL_ (some 13) rfl rfl Tryd.func10 (by kernel_rfl) rfl #[] rfl (by (try simp only [List.map_toArray, List.map_cons, List.map_nil]); first | done | rfl | (simp only [List.length_drop, List.length_take]; rfl)) ?_; (with_reducible refine (transeptlaw17_shown.calls k  t363 _ ?side1 A5.out).mono ?_); (case side1 => exact Ext.tabs_at HT.out (by repeat (first | (with_reducible first | exact HB.out | apply below_alloc | apply pw_below_drewN | apply below_drew1) | exact HB.out))); rintro e w7 ⟨rfl, hb⟩; refine ⟨_, rfl, ?_⟩; have n0_ := Aside0.mk (below_step (by repeat (first | (with_reducible first | exact HB.out | apply below_alloc | apply pw_below_drewN | apply below_drew1) | exact HB.out)) hb); clear HB; have HB := n0_; clear n0_; (try clear hb); (try clear hb2); (try clear hk); (try clear hi)) | ((with_reducible refine gate_callee (f := 11) rfl ?_); refine goesL_ (some 16) rfl rfl Tryd.func11 (by kernel_rfl) rfl #[.slice A2 l2.length c2] rfl (by (try simp only [List.map_toArray, List.map_cons, List.map_nil]); first | done | rfl | (simp only [List.length_drop, List.length_take]; rfl)) ?_; (with_reducible refine (transeptlaw17_few.calls k _ _ l2 t364 t365 _ ?side1 ?side2 A6.out).mono ?_); (case side1 => repeat (first | exact (Kd.C_below HR2.out HB.out) | (with_reducible refine Kd.C_alloc ?_ _) | (with_reducible refine Kd.C_drewN ?_ _) | (with_reducible refine Kd.C_drew ?_))); (case side2 => exact HC2.out); rintro e w8 ⟨v366, v368, rfl, ho0, ho1, hb⟩; refine ⟨_, rfl, ?_⟩; have n0_ := Aside0.mk (Kd.R_lower ho0 (below_size (by repeat (first | (with_reducible first | exact HB.out | apply below_alloc | apply pw_below_drewN | apply below_drew1) | exact HB.out)))); have n1_ := Aside0.mk (Kd.R_lower ho1 (below_size (by repeat (first | (with_reducible first | exact HB.out | apply below_alloc | apply pw_below_drewN | apply below_drew1) | exact HB.out)))); have n2_ := Aside0.mk (below_step (by repeat (first | (with_reducible first | exact HB.out | apply below_alloc | apply pw_below_drewN | apply below_drew1) | exact HB.out)) hb); clear HB; have HO367 := n0_; have HO369 := n1_; have HB := n2_; clear n0_ n1_ n2_; (try clear hb); (try clear hb2); (try clear hk); (try clear hi); (try clear ho0); (try clear ho1)))
  all_goals (try (exfalso; omega))
  go_loopg [10, 11] k (fun kq v10 v11 w' => ∃ (x10_1 : List (S40)) (x11_1 : Int), v11 = .int .i64 x11_1 ∧ Aside0 (transeptlaw17_CorsLetters.l0 kq a0 a1 t364 a3 t363 x10_1 x11_1 = some true) ∧ Aside0 (kq ≤ k) ∧ Aside0 (Kd.R k40 40 w' w.heap.size (fun k_ => some k_ ≠ (v10 : Value).ownBlock) v366 t364) ∧ Aside0 (Kd.R k40 40 w' w.heap.size (fun k_ => some k_ ≠ (v366 : Value).ownBlock) v10 x10_1) ∧ Aside0 (Below w.heap.size w w'))
  case atStart => exact ⟨(([] : List (S40))), (0), (by first | rfl | (simp; done) | (simp [*]; done) | (congr 1; unfold wrap64; omega) | (simp; simp only [decide_eq_false_iff_not, decide_eq_true_eq] at *; congr 2; omega)), H', ⟨Nat.le_refl _⟩, ⟨by (with_reducible repeat (first | apply Kd.R_alloc | apply Kd.R_drewN | apply Kd.R_drew)); exact Kd.R_mono HO367.out (fun _ hk => (by simp [Value.ownBlock]))⟩, ⟨by first | exact Kd.R_nil _ _ _ _ _ | exact Kd.N_nil _ _ _ _ _ | exact Kd.V_nil _ _ _ _ _ | exact Kd.Q_nil _ _ _ _ _ | exact Kd.S_nil _ _ _ _ _⟩, ⟨by repeat (first | (with_reducible first | exact HB.out | apply below_alloc | apply pw_below_drewN | apply below_drew1) | exact HB.out)⟩⟩
  case round =>
    clear H'
    try clear c1
    try clear c2
    try clear p2
    try clear c6
    obtain ⟨x10_1, x11_1, rfl, HA, HK1, HO_2, HO_10, HB⟩ := hrel
    cases gk with
    | zero => exact absurd HA.out (by simp [transeptlaw17_CorsLetters.l0])
    | succ k1 =>
      have H := HA.out
      clear HA
      simp only [transeptlaw17_CorsLetters.l0] at H
      by_cases c9 : x11_1 < (t364.length : Int)
      · rw [if_pos c9] at H
        have c9b0 : decide (x11_1 < (t364.length : Int)) = true := decide_eq_true c9
        by_cases c10 : 0 ≤ x11_1
        · rw [if_pos c10] at H
          have c10b0 : decide (0 ≤ x11_1) = true := decide_eq_true c10
          replace H := Option.bind_eq_some_iff.mp H
          obtain ⟨t371, A110, H⟩ := H
          replace H : (if x10_1.length < 4398046511104 then (transeptlaw17_CorsLetters.l0 k1 a0 a1 t364 a3 t363 (x10_1 ++ [(⟨t371, (rd_T40 t364 x11_1).f1⟩ : S40)]) (wrap64 (x11_1 + 1))) else (none)) = some true := H
          have A11 := Aside0.mk A110
          clear A110
          by_cases c12 : x10_1.length < 4398046511104
          · rw [if_pos c12] at H
            have LMc12 := Aside0.mk c12
            obtain ⟨y373, hy373⟩ : ∃ y_ : List (S40), y_ = (x10_1 ++ [(⟨t371, (rd_T40 t364 x11_1).f1⟩ : S40)]) := ⟨_, rfl⟩
            replace H : (transeptlaw17_CorsLetters.l0 k1 a0 a1 t364 a3 t363 y373 (wrap64 (x11_1 + 1))) = some true := by first | (rw [hy373]; with_reducible exact H) | (have H2_ := (Option.bind_some _ _).symm.trans H; rw [hy373]; with_reducible exact H2_) | (have H2_ := (Option.bind_some _ _).symm.trans H; with_reducible exact H2_) | with_reducible exact H | (rw [hy373]; exact H) | exact H
            have Ny373 := Aside0.mk hy373
            clear hy373
            have H' := Aside0.mk H
            clear H
            obtain ⟨Ao13, co13, eo13⟩ := Kd.R_slice HO_2.out
            subst eo13
            try go_wp2
            have n0_ := Aside0.mk (Kd.R_drew HO_2.out)
            have n1_ := Aside0.mk (Kd.R_drew HO_10.out)
            have n2_ := Aside0.mk (below_drew1 HB.out)
            clear HO_2
            clear HO_10
            clear HB
            have HO_2 := n0_
            have HO_10 := n1_
            have HB := n2_
            clear n0_ n1_ n2_
            have p370 : 0 ≤ (x11_1 : Int) := of_decide_eq_true (by first | (with_reducible assumption) | assumption)
            have q370 : x11_1 < (t364.length : Int) := of_decide_eq_true (by first | (with_reducible assumption) | assumption)
            obtain ⟨ad370, e370, hx370_0, hx370_1⟩ := at_T40 (Kd.R_reads' HO_2.out).2.2 x11_1 p370 q370
            cases e370
            replace p370 := eq_true p370
            replace q370 := eq_true q370
            have p372 : 0 ≤ (x11_1 : Int) := of_decide_eq_true (by first | (with_reducible assumption) | assumption)
            have q372 : x11_1 < (t364.length : Int) := of_decide_eq_true (by first | (with_reducible assumption) | assumption)
            obtain ⟨ad372, e372, hx372_0, hx372_1⟩ := at_T40 (Kd.R_reads' HO_2.out).2.2 x11_1 p372 q372
            obtain rfl : ad370 = ad372 := (by injection e372)
            replace p372 := eq_true p372
            replace q372 := eq_true q372
            refine start_ (n := 16) (S := fun w' => w'.cell? (ad370.add ((x11_1).toNat * 2)) = some (.string ((rd_T40 t364 x11_1).f0)) ∧ w'.cell? ⟨(ad370.add ((x11_1).toNat * 2)).block, (ad370.add ((x11_1).toNat * 2)).off + 1, none⟩ = some (.string ((rd_T40 t364 x11_1).f1)) ∧ w'.cell? (ad370.add ((x11_1).toNat * 2)) = some (.string ((rd_T40 t364 x11_1).f0)) ∧ w'.cell? ⟨(ad370.add ((x11_1).toNat * 2)).block, (ad370.add ((x11_1).toNat * 2)).off + 1, none⟩ = some (.string ((rd_T40 t364 x11_1).f1))) (ds := [13, 14]) #[false, false, false, false, false, false, false, false, false, false, false, false, false, false, false, false] (by kernel_rfl) rfl rfl ⟨hx370_0, hx370_1, hx372_0, hx372_1⟩ (fun hHeld => ?_); refine with_tabW transeptlaw17_CorsLetters.tab7 transeptlaw17_CorsLetters.bits7 (fun HT_ HW_ => ?_)
            generalize wr.drew = w14 at HO_2 HO_10 HB hx370_0 hx370_1 hx372_0 hx372_1 hHeld ⊢
            refine pure_ (i := 0) (N := some 25) (v := ?_) (a' := ?_) #[true, false, false, false, false, false, false, false, false, false, false, false, false, false, false, false] rfl rfl (any_of HT_.out (by kernel_rfl)) (fun _ _ _ h => h) (Or.inl ⟨by rfl, ?_⟩) ?_ ?_
            rotate_left
            · intro w'
              go_simp
              with_reducible rfl
            rotate_left
            · simp only [Act.put, List.setIfInBounds_toArray, List.set_cons_zero, List.set_cons_succ, i64_w, i32_w]
              rfl
            refine pure_ (i := 1) (N := some 26) (v := ?_) (a' := ?_) #[true, true, false, false, false, false, false, false, false, false, false, false, false, false, false, false] rfl rfl (any_of HT_.out (by kernel_rfl)) (fun _ _ _ h => h) (Or.inl ⟨by rfl, ?_⟩) ?_ ?_
            rotate_left
            · intro w'
              go_simp
              with_reducible rfl
            rotate_left
            · simp only [Act.put, List.setIfInBounds_toArray, List.set_cons_zero, List.set_cons_succ, i64_w, i32_w]
              rfl
            refine pure_ (i := 2) (N := some 27) (v := ?_) (a' := ?_) #[true, true, true, false, false, false, false, false, false, false, false, false, false, false, false, false] rfl rfl (any_of HT_.out (by kernel_rfl)) (fun _ _ _ h => h) (Or.inl ⟨by rfl, ?_⟩) ?_ ?_
            rotate_left
            · intro w'
              go_simp
              with_reducible rfl
            rotate_left
            · simp only [Act.put, List.setIfInBounds_toArray, List.set_cons_zero, List.set_cons_succ, i64_w, i32_w]
              rfl
            refine pure_ (i := 3) (N := some 28) (v := ?_) (a' := ?_) #[true, true, true, true, false, false, false, false, false, false, false, false, false, false, false, false] rfl rfl (any_of HT_.out (by kernel_rfl)) (fun _ _ _ h => h) (Or.inl ⟨by rfl, ?_⟩) ?_ ?_
            rotate_left
            · intro w'
              go_simp
              with_reducible rfl
            rotate_left
            · simp only [Act.put, List.setIfInBounds_toArray, List.set_cons_zero, List.set_cons_succ, i64_w, i32_w]
              rfl
            refine pure_ (i := 4) (N := some 29) (v := ?_) (a' := ?_) #[true, true, true, true, true, false, false, false, false, false, false, false, false, false, false, false] rfl rfl (any_of HT_.out (by kernel_rfl)) (fun _ _ _ h => h) (Or.inl ⟨by rfl, ?_⟩) ?_ ?_
            rotate_left
            · intro w'
              go_simp
              with_reducible rfl
            rotate_left
            · simp only [Act.put, List.setIfInBounds_toArray, List.set_cons_zero, List.set_cons_succ, i64_w, i32_w]
              rfl
            refine pure_ (i := 7) (N := some 32) (v := ?_) (a' := ?_) #[true, true, true, true, true, false, false, true, false, false, false, false, false, false, false, false] rfl rfl (any_of HT_.out (by kernel_rfl)) (fun _ _ _ h => h) (Or.inl ⟨by rfl, ?_⟩) ?_ ?_
            rotate_left
            · intro w'
              go_simp
              with_reducible rfl
            rotate_left
            · simp only [Act.put, List.setIfInBounds_toArray, List.set_cons_zero, List.set_cons_succ, i64_w, i32_w]
              rfl
            refine pure_ (i := 8) (N := some 33) (v := ?_) (a' := ?_) #[true, true, true, true, true, false, false, true, true, false, false, false, false, false, false, false] rfl rfl (any_of HT_.out (by kernel_rfl)) (fun _ _ _ h => h) (Or.inl ⟨by rfl, ?_⟩) ?_ ?_
            rotate_left
            · intro w'
              go_simp
              with_reducible rfl
            rotate_left
            · simp only [Act.put, List.setIfInBounds_toArray, List.set_cons_zero, List.set_cons_succ, i64_w, i32_w]
              rfl
            refine pure_ (i := 9) (N := some 34) (v := ?_) (a' := ?_) #[true, true, true, true, true, false, false, true, true, true, false, false, false, false, false, false] rfl rfl (any_of HT_.out (by kernel_rfl)) (fun _ _ _ h => h) (Or.inl ⟨by rfl, ?_⟩) ?_ ?_
            rotate_left
            · intro w'
              go_simp
              with_reducible rfl
            rotate_left
            · simp only [Act.put, List.setIfInBounds_toArray, List.set_cons_zero, List.set_cons_succ, i64_w, i32_w]
              rfl
            refine pure_ (i := 10) (N := some 35) (v := ?_) (a' := ?_) #[true, true, true, true, true, false, false, true, true, true, true, false, false, false, false, false] rfl rfl (any_of HT_.out (by kernel_rfl)) (fun _ _ _ h => h) (Or.inl ⟨by rfl, ?_⟩) ?_ ?_
            rotate_left
            · intro w'
              go_simp
              with_reducible rfl
            rotate_left
            · simp only [Act.put, List.setIfInBounds_toArray, List.set_cons_zero, List.set_cons_succ, i64_w, i32_w]
              rfl
            refine take_ (i := 5) (N := some 30) (v := ?_) (a' := ?_) #[true, true, true, true, true, true, false, true, true, true, true, false, false, false, false, false] rfl rfl (take_ofW HT_.out HW_.out (by kernel_rfl)) (fun _ _ _ h => h) (Or.inl ⟨by rfl, ?_⟩) hHeld ?_ ?_
            rotate_left
            · rintro w' ⟨s0, s1, s2, s3⟩
              go_simp
              with_reducible rfl
            rotate_left
            · simp only [Act.put, List.setIfInBounds_toArray, List.set_cons_zero, List.set_cons_succ, i64_w, i32_w]
              rfl
            refine take_ (i := 11) (N := some 36) (v := ?_) (a' := ?_) #[true, true, true, true, true, true, false, true, true, true, true, true, false, false, false, false] rfl rfl (take_ofW HT_.out HW_.out (by kernel_rfl)) (fun _ _ _ h => h) (Or.inl ⟨by rfl, ?_⟩) hHeld ?_ ?_
            rotate_left
            · rintro w' ⟨s0, s1, s2, s3⟩
              go_simp
              with_reducible rfl
            rotate_left
            · simp only [Act.put, List.setIfInBounds_toArray, List.set_cons_zero, List.set_cons_succ, i64_w, i32_w]
              rfl
            refine one_ (i := 6) (N := some 31) #[true, true, true, true, true, true, true, true, true, true, true, true, false, false, false, false] rfl rfl (one_of HT_.out (by kernel_rfl)) (by decide) (fun K hK => ?_)
            refine goes_ Tryd.func23 (by kernel_rfl) rfl #[.string ((rd_T40 t364 x11_1).f0)] (by rfl) rfl rfl (by (try simp only [List.map_toArray, List.map_cons, List.map_nil]); first | done | rfl | (simp only [List.length_drop, List.length_take]; rfl)) ?_
            with_reducible refine (Ext.token_Lower.calls ((rd_T40 t364 x11_1).f0) t371 _ A11.out).mono ?_
            rintro e w15 ⟨rfl, hb⟩
            have HS0_ := (hb.cell (World.block_lt_of_cell? _ _ (hHeld.1))).trans (hHeld.1)
            have HS1_ := (hb.cell (World.block_lt_of_cell? _ _ (hHeld.2.1))).trans (hHeld.2.1)
            have HS2_ := (hb.cell (World.block_lt_of_cell? _ _ (hHeld.2.2.1))).trans (hHeld.2.2.1)
            have HS3_ := (hb.cell (World.block_lt_of_cell? _ _ (hHeld.2.2.2))).trans (hHeld.2.2.2)
            refine ⟨_, rfl, ?_⟩
            have n0_ := Aside0.mk (Kd.R_below (by (with_reducible repeat (first | apply Kd.R_alloc | apply Kd.R_drewN | apply Kd.R_drew)); exact HO_2.out) hb)
            have n1_ := Aside0.mk (Kd.R_below (by (with_reducible repeat (first | apply Kd.R_alloc | apply Kd.R_drewN | apply Kd.R_drew)); exact HO_10.out) hb)
            have n2_ := Aside0.mk (below_step (by repeat (first | (with_reducible first | exact HB.out | apply below_alloc | apply pw_below_drewN | apply below_drew1) | exact HB.out)) hb)
            clear HO_2
            clear HO_10
            clear HB
            have HO_2 := n0_
            have HO_10 := n1_
            have HB := n2_
            clear n0_ n1_ n2_
            (try clear hb)
            (try clear hb2)
            (try clear hk)
            (try clear hi)
            refine hK.out _ _ ⟨HS0_, HS1_, HS2_, HS3_⟩ (fun hHeld => ?_)
            clear hK K
            refine norm_ (a' := ?_) ?_ ?_
            rotate_left
            · show Act.put _ (some 31) _ = _
              simp only [Act.put, List.setIfInBounds_toArray, List.set_cons_zero, List.set_cons_succ, i64_w, i32_w]
              rfl
            refine pure_ (i := 12) (N := some 37) (v := ?_) (a' := ?_) #[true, true, true, true, true, true, true, true, true, true, true, true, true, false, false, false] rfl rfl (any_of HT_.out (by kernel_rfl)) (fun _ _ _ h => h) (Or.inl ⟨by rfl, ?_⟩) ?_ ?_
            rotate_left
            · intro w'
              go_simp
              with_reducible rfl
            rotate_left
            · simp only [Act.put, List.setIfInBounds_toArray, List.set_cons_zero, List.set_cons_succ, i64_w, i32_w]
              rfl
            refine last_ (i := 13) (N := some 38) #[true, true, true, true, true, true, true, true, true, true, true, true, true, true, false, false] rfl rfl (one_of HT_.out (by kernel_rfl)) (by decide) (fun K hK => ?_)
            refine value_ (w1 := ?_) (v := ?_) (by rfl) rfl ?_ ?_
            rotate_left 2
            · go_simp
              constructor
              · rfl
              · rfl
            refine hK.out _ _ ?_
            clear hK K
            refine norm_ (a' := ?_) ?_ ?_
            rotate_left
            · show Act.put _ (some 38) _ = _
              simp only [Act.put, List.setIfInBounds_toArray, List.set_cons_zero, List.set_cons_succ, i64_w, i32_w]
              rfl
            refine last_ (i := 14) (N := some 39) #[true, true, true, true, true, true, true, true, true, true, true, true, true, true, true, false] rfl rfl (one_of HT_.out (by kernel_rfl)) (by decide) (fun K hK => ?_)
            refine Kd.R_append_step k40 (w0 := w) w.heap.size (by rfl) (.tmp 25) (.tmp 38) 22 40 (.agg #[(.string ⟨#[]⟩), (.string ⟨#[]⟩)]) 32 rfl Tryd.underlying22 info40 rfl (by decide) (by omega) u10 x10_1 (⟨t371, (rd_T40 t364 x11_1).f1⟩ : S40) [.string t371, .string ((rd_T40 t364 x11_1).f1)] (fun k_ => some k_ ≠ (.slice (some ad370) t364.length co13 : Value).ownBlock) (fun _ => False) rfl rfl ?aP (fun _ hk => hk.elim) ?aF ?aO ?aB ?aS ?aL ?_
            (case aP => exact k40_mkM _ _ _ (⟨t371, (rd_T40 t364 x11_1).f1⟩ : S40))
            (case aB => exact (by repeat (first | (with_reducible first | exact HB.out | apply below_alloc | apply pw_below_drewN | apply below_drew1) | exact HB.out)))
            (case aF => exact (fun k_ hk => Kd.fresh' (Kd.R_lt (by (with_reducible repeat (first | apply Kd.R_alloc | apply Kd.R_drewN | apply Kd.R_drew)); exact HO_2.out)) k_ hk))
            (case aO => exact (by (with_reducible repeat (first | apply Kd.R_alloc | apply Kd.R_drewN | apply Kd.R_drew)); exact HO_10.out))
            (case aS => exact (below_size (by repeat (first | (with_reducible first | exact HB.out | apply below_alloc | apply pw_below_drewN | apply below_drew1) | exact HB.out))))
            (case aL => have := LMc12.out; omega)
            intro v374 w16 ho hb hg hat
            rw [← Ny373.out] at ho
            have n0_ := Aside0.mk (Kd.R_after (ok := (fun _ => True)) (by (with_reducible repeat (first | apply Kd.R_alloc | apply Kd.R_drewN | apply Kd.R_drew)); exact Kd.R_mono HO_2.out (fun _ hk => ⟨trivial, hk⟩)) hg hat)
            have n1_ := Aside0.mk (hb)
            have n2_ := Aside0.mk (ho)
            clear HO_2
            clear HB
            clear HO_10
            have HO_2 := n0_
            have HB := n1_
            have HO375 := n2_
            clear n0_ n1_ n2_
            clear ho hb hg hat
            refine hK.out _ _ ?_
            clear hK K
            refine norm_ (a' := ?_) ?_ ?_
            rotate_left
            · show Act.put _ (some 39) _ = _
              simp only [Act.put, List.setIfInBounds_toArray, List.set_cons_zero, List.set_cons_succ, i64_w, i32_w]
              rfl
            refine pure_ (i := 15) (N := some 10) (v := ?_) (a' := ?_) #[true, true, true, true, true, true, true, true, true, true, true, true, true, true, true, true] rfl rfl (any_of HT_.out (by kernel_rfl)) (fun _ _ _ h => h) (Or.inl ⟨by rfl, ?_⟩) ?_ ?_
            rotate_left
            · intro w'
              go_simp
              with_reducible rfl
            rotate_left
            · simp only [Act.put, List.setIfInBounds_toArray, List.set_cons_zero, List.set_cons_succ, i64_w, i32_w]
              rfl
            refine done_ (done_of HT_.out (by kernel_rfl)) ?_
            try go_wp2
            go_roundg k1
            case measure => have := HK1.out; omega
            case rel => exact ⟨(y373), (wrap64 (x11_1 + 1)), (by first | rfl | (simp; done) | (simp [*]; done) | (congr 1; unfold wrap64; omega) | (simp; simp only [decide_eq_false_iff_not, decide_eq_true_eq] at *; congr 2; omega)), H', ⟨by have := HK1.out; omega⟩, ⟨by (with_reducible repeat (first | apply Kd.R_alloc | apply Kd.R_drewN | apply Kd.R_drew)); exact Kd.R_mono HO_2.out (fun _ hk => hk.2)⟩, ⟨by (with_reducible repeat (first | apply Kd.R_alloc | apply Kd.R_drewN | apply Kd.R_drew)); exact HO375.out⟩, ⟨by repeat (first | (with_reducible first | exact HB.out | apply below_alloc | apply pw_below_drewN | apply below_drew1) | exact HB.out)⟩⟩
          · rw [if_neg c12] at H
            exact absurd H (by simp)
        · rw [if_neg c10] at H
          exact absurd H (by simp)
      · rw [if_neg c9] at H
        have c9b0 : decide (x11_1 < (t364.length : Int)) = false := decide_eq_false c9
        replace H := Option.bind_eq_some_iff.mp H
        obtain ⟨t376, A170, H⟩ := H
        replace H : (if t363 = true then ((cors_Check.f k1 a0 a1 t364).bind fun t377 => ((cors_Check.f k1 a0 a1 x10_1).bind fun t378 => (if (t377 == t378) = true then ((cors_Age.f k1 t364).bind fun t379 => ((cors_Age.f k1 x10_1).bind fun t380 => (if t379 = t380 then ((cors_Exposes.f k1 a3 a1 t364).bind fun t381 => ((cors_Exposes.f k1 t376 a1 x10_1).bind fun t382 => (if (t381 == t382) = true then ((cors_Preflight.f k1 a0 a1 (⟨#[80, 85, 84]⟩ : ByteArray) (([a3] : List ByteArray)) 200 t364).bind fun t386 => ((cors_Preflight.f k1 a0 a1 (⟨#[112, 117, 116]⟩ : ByteArray) (([t376] : List ByteArray)) 200 x10_1).bind fun t390 => (if (t386 == t390) = true then ((cors_Exposes.f k1 a3 true t364).bind fun t391 => (if t391 = true then ((cors_Exposes.f k1 a3 false t364).bind fun t392 => (some t392)) else (some true))) else (some false)))) else (some false)))) else (some false)))) else (some false)))) else (some false)) = some true := H
        have A17 := Aside0.mk A170
        clear A170
        by_cases c18 : t363 = true
        · subst c18
          have H1 : ((cors_Check.f k1 a0 a1 t364).bind fun t377 => ((cors_Check.f k1 a0 a1 x10_1).bind fun t378 => (if (t377 == t378) = true then ((cors_Age.f k1 t364).bind fun t379 => ((cors_Age.f k1 x10_1).bind fun t380 => (if t379 = t380 then ((cors_Exposes.f k1 a3 a1 t364).bind fun t381 => ((cors_Exposes.f k1 t376 a1 x10_1).bind fun t382 => (if (t381 == t382) = true then ((cors_Preflight.f k1 a0 a1 (⟨#[80, 85, 84]⟩ : ByteArray) (([a3] : List ByteArray)) 200 t364).bind fun t386 => ((cors_Preflight.f k1 a0 a1 (⟨#[112, 117, 116]⟩ : ByteArray) (([t376] : List ByteArray)) 200 x10_1).bind fun t390 => (if (t386 == t390) = true then ((cors_Exposes.f k1 a3 true t364).bind fun t391 => (if t391 = true then ((cors_Exposes.f k1 a3 false t364).bind fun t392 => (some t392)) else (some true))) else (some false)))) else (some false)))) else (some false)))) else (some false)))) = some true := by rw [if_pos rfl] at H; exact H
          clear H
          have H := H1
          clear H1
          replace H := Option.bind_eq_some_iff.mp H
          obtain ⟨t377, A190, H⟩ := H
          replace H : ((cors_Check.f k1 a0 a1 x10_1).bind fun t378 => (if (t377 == t378) = true then ((cors_Age.f k1 t364).bind fun t379 => ((cors_Age.f k1 x10_1).bind fun t380 => (if t379 = t380 then ((cors_Exposes.f k1 a3 a1 t364).bind fun t381 => ((cors_Exposes.f k1 t376 a1 x10_1).bind fun t382 => (if (t381 == t382) = true then ((cors_Preflight.f k1 a0 a1 (⟨#[80, 85, 84]⟩ : ByteArray) (([a3] : List ByteArray)) 200 t364).bind fun t386 => ((cors_Preflight.f k1 a0 a1 (⟨#[112, 117, 116]⟩ : ByteArray) (([t376] : List ByteArray)) 200 x10_1).bind fun t390 => (if (t386 == t390) = true then ((cors_Exposes.f k1 a3 true t364).bind fun t391 => (if t391 = true then ((cors_Exposes.f k1 a3 false t364).bind fun t392 => (some t392)) else (some true))) else (some false)))) else (some false)))) else (some false)))) else (some false))) = some true := H
          have A19 := Aside0.mk A190
          clear A190
          replace H := Option.bind_eq_some_iff.mp H
          obtain ⟨t378, A200, H⟩ := H
          replace H : (if (t377 == t378) = true then ((cors_Age.f k1 t364).bind fun t379 => ((cors_Age.f k1 x10_1).bind fun t380 => (if t379 = t380 then ((cors_Exposes.f k1 a3 a1 t364).bind fun t381 => ((cors_Exposes.f k1 t376 a1 x10_1).bind fun t382 => (if (t381 == t382) = true then ((cors_Preflight.f k1 a0 a1 (⟨#[80, 85, 84]⟩ : ByteArray) (([a3] : List ByteArray)) 200 t364).bind fun t386 => ((cors_Preflight.f k1 a0 a1 (⟨#[112, 117, 116]⟩ : ByteArray) (([t376] : List ByteArray)) 200 x10_1).bind fun t390 => (if (t386 == t390) = true then ((cors_Exposes.f k1 a3 true t364).bind fun t391 => (if t391 = true then ((cors_Exposes.f k1 a3 false t364).bind fun t392 => (some t392)) else (some true))) else (some false)))) else (some false)))) else (some false)))) else (some false)) = some true := H
          have A20 := Aside0.mk A200
          clear A200
          by_cases c21 : (t377 == t378) = true
          · rw [if_pos c21] at H
            have c21b0 : (t377 == t378) = true := c21
            (try (have c21b1 : decide (t377 = t378) = true := by simpa using c21))
            (try (have c21b2 : (t377 == t378) = true := by simpa using c21))
            clear c21
            replace H := Option.bind_eq_some_iff.mp H
            obtain ⟨t379, A220, H⟩ := H
            replace H : ((cors_Age.f k1 x10_1).bind fun t380 => (if t379 = t380 then ((cors_Exposes.f k1 a3 a1 t364).bind fun t381 => ((cors_Exposes.f k1 t376 a1 x10_1).bind fun t382 => (if (t381 == t382) = true then ((cors_Preflight.f k1 a0 a1 (⟨#[80, 85, 84]⟩ : ByteArray) (([a3] : List ByteArray)) 200 t364).bind fun t386 => ((cors_Preflight.f k1 a0 a1 (⟨#[112, 117, 116]⟩ : ByteArray) (([t376] : List ByteArray)) 200 x10_1).bind fun t390 => (if (t386 == t390) = true then ((cors_Exposes.f k1 a3 true t364).bind fun t391 => (if t391 = true then ((cors_Exposes.f k1 a3 false t364).bind fun t392 => (some t392)) else (some true))) else (some false)))) else (some false)))) else (some false))) = some true := H
            have A22 := Aside0.mk A220
            clear A220
            replace H := Option.bind_eq_some_iff.mp H
            obtain ⟨t380, A230, H⟩ := H
            replace H : (if t379 = t380 then ((cors_Exposes.f k1 a3 a1 t364).bind fun t381 => ((cors_Exposes.f k1 t376 a1 x10_1).bind fun t382 => (if (t381 == t382) = true then ((cors_Preflight.f k1 a0 a1 (⟨#[80, 85, 84]⟩ : ByteArray) (([a3] : List ByteArray)) 200 t364).bind fun t386 => ((cors_Preflight.f k1 a0 a1 (⟨#[112, 117, 116]⟩ : ByteArray) (([t376] : List ByteArray)) 200 x10_1).bind fun t390 => (if (t386 == t390) = true then ((cors_Exposes.f k1 a3 true t364).bind fun t391 => (if t391 = true then ((cors_Exposes.f k1 a3 false t364).bind fun t392 => (some t392)) else (some true))) else (some false)))) else (some false)))) else (some false)) = some true := H
            have A23 := Aside0.mk A230
            clear A230
            by_cases c24 : t379 = t380
            · rw [if_pos c24] at H
              have c24b0 : (t379 == t380) = true := beq_iff_eq.mpr c24
              have c24b1 : (t379 != t380) = false := bne_eq_false_iff_eq.mpr c24
              clear c24
              replace H := Option.bind_eq_some_iff.mp H
              obtain ⟨t381, A250, H⟩ := H
              replace H : ((cors_Exposes.f k1 t376 a1 x10_1).bind fun t382 => (if (t381 == t382) = true then ((cors_Preflight.f k1 a0 a1 (⟨#[80, 85, 84]⟩ : ByteArray) (([a3] : List ByteArray)) 200 t364).bind fun t386 => ((cors_Preflight.f k1 a0 a1 (⟨#[112, 117, 116]⟩ : ByteArray) (([t376] : List ByteArray)) 200 x10_1).bind fun t390 => (if (t386 == t390) = true then ((cors_Exposes.f k1 a3 true t364).bind fun t391 => (if t391 = true then ((cors_Exposes.f k1 a3 false t364).bind fun t392 => (some t392)) else (some true))) else (some false)))) else (some false))) = some true := H
              have A25 := Aside0.mk A250
              clear A250
              replace H := Option.bind_eq_some_iff.mp H
              obtain ⟨t382, A260, H⟩ := H
              replace H : (if (t381 == t382) = true then ((cors_Preflight.f k1 a0 a1 (⟨#[80, 85, 84]⟩ : ByteArray) (([a3] : List ByteArray)) 200 t364).bind fun t386 => ((cors_Preflight.f k1 a0 a1 (⟨#[112, 117, 116]⟩ : ByteArray) (([t376] : List ByteArray)) 200 x10_1).bind fun t390 => (if (t386 == t390) = true then ((cors_Exposes.f k1 a3 true t364).bind fun t391 => (if t391 = true then ((cors_Exposes.f k1 a3 false t364).bind fun t392 => (some t392)) else (some true))) else (some false)))) else (some false)) = some true := H
              have A26 := Aside0.mk A260
              clear A260
              by_cases c27 : (t381 == t382) = true
              · rw [if_pos c27] at H
                have c27b0 : (t381 == t382) = true := c27
                (try (have c27b1 : decide (t381 = t382) = true := by simpa using c27))
                (try (have c27b2 : (t381 == t382) = true := by simpa using c27))
                clear c27
                obtain ⟨y383, hy383⟩ : ∃ y_ : List ByteArray, y_ = (([a3] : List ByteArray)) := ⟨_, rfl⟩
                replace H : ((cors_Preflight.f k1 a0 a1 (⟨#[80, 85, 84]⟩ : ByteArray) y383 200 t364).bind fun t386 => ((cors_Preflight.f k1 a0 a1 (⟨#[112, 117, 116]⟩ : ByteArray) (([t376] : List ByteArray)) 200 x10_1).bind fun t390 => (if (t386 == t390) = true then ((cors_Exposes.f k1 a3 true t364).bind fun t391 => (if t391 = true then ((cors_Exposes.f k1 a3 false t364).bind fun t392 => (some t392)) else (some true))) else (some false)))) = some true := by first | (rw [hy383]; with_reducible exact H) | (have H2_ := (Option.bind_some _ _).symm.trans H; rw [hy383]; with_reducible exact H2_) | (have H2_ := (Option.bind_some _ _).symm.trans H; with_reducible exact H2_) | with_reducible exact H | (rw [hy383]; exact H) | exact H
                have Ny383 := Aside0.mk hy383
                clear hy383
                replace H := Option.bind_eq_some_iff.mp H
                obtain ⟨t386, A280, H⟩ := H
                replace H : ((cors_Preflight.f k1 a0 a1 (⟨#[112, 117, 116]⟩ : ByteArray) (([t376] : List ByteArray)) 200 x10_1).bind fun t390 => (if (t386 == t390) = true then ((cors_Exposes.f k1 a3 true t364).bind fun t391 => (if t391 = true then ((cors_Exposes.f k1 a3 false t364).bind fun t392 => (some t392)) else (some true))) else (some false))) = some true := H
                have A28 := Aside0.mk A280
                clear A280
                obtain ⟨y387, hy387⟩ : ∃ y_ : List ByteArray, y_ = (([t376] : List ByteArray)) := ⟨_, rfl⟩
                replace H : ((cors_Preflight.f k1 a0 a1 (⟨#[112, 117, 116]⟩ : ByteArray) y387 200 x10_1).bind fun t390 => (if (t386 == t390) = true then ((cors_Exposes.f k1 a3 true t364).bind fun t391 => (if t391 = true then ((cors_Exposes.f k1 a3 false t364).bind fun t392 => (some t392)) else (some true))) else (some false))) = some true := by first | (rw [hy387]; with_reducible exact H) | (have H2_ := (Option.bind_some _ _).symm.trans H; rw [hy387]; with_reducible exact H2_) | (have H2_ := (Option.bind_some _ _).symm.trans H; with_reducible exact H2_) | with_reducible exact H | (rw [hy387]; exact H) | exact H
                have Ny387 := Aside0.mk hy387
                clear hy387
                replace H := Option.bind_eq_some_iff.mp H
                obtain ⟨t390, A290, H⟩ := H
                replace H : (if (t386 == t390) = true then ((cors_Exposes.f k1 a3 true t364).bind fun t391 => (if t391 = true then ((cors_Exposes.f k1 a3 false t364).bind fun t392 => (some t392)) else (some true))) else (some false)) = some true := H
                have A29 := Aside0.mk A290
                clear A290
                by_cases c30 : (t386 == t390) = true
                · rw [if_pos c30] at H
                  have c30b0 : (t386 == t390) = true := c30
                  (try (have c30b1 : decide (t386 = t390) = true := by simpa using c30))
                  (try (have c30b2 : (t386 == t390) = true := by simpa using c30))
                  clear c30
                  replace H := Option.bind_eq_some_iff.mp H
                  obtain ⟨t391, A310, H⟩ := H
                  replace H : (if t391 = true then ((cors_Exposes.f k1 a3 false t364).bind fun t392 => (some t392)) else (some true)) = some true := H
                  have A31 := Aside0.mk A310
                  clear A310
                  by_cases c32 : t391 = true
                  · subst c32
                    have H1 : ((cors_Exposes.f k1 a3 false t364).bind fun t392 => (some t392)) = some true := by rw [if_pos rfl] at H; exact H
                    clear H
                    have H := H1
                    clear H1
                    replace H := Option.bind_eq_some_iff.mp H
                    obtain ⟨t392, A330, H⟩ := H
                    replace H : (some t392) = some true := H
                    have A33 := Aside0.mk A330
                    clear A330
                    first | (revert H; simp only [Option.some.injEq, Bool.false_eq_true, false_implies]; done) | (have hv_ := Option.some.inj H)
                    all_goals obtain ⟨Ao34, co34, eo34⟩ := Kd.R_slice HO_2.out
                    all_goals subst eo34
                    all_goals go_wp2_with (first | ((with_reducible refine gate_callee (f := 23) rfl ?_); refine goesL_ (some 41) rfl rfl Tryd.func23 (by kernel_rfl) rfl #[.string a3] rfl (by (try simp only [List.map_toArray, List.map_cons, List.map_nil]); first | done | rfl | (simp only [List.length_drop, List.length_take]; rfl)) ?_; (with_reducible refine (Ext.token_Lower.calls a3 t376 _ A17.out).mono ?_); rintro e w35 ⟨rfl, hb⟩; refine ⟨_, rfl, ?_⟩; have n0_ := Aside0.mk (Kd.R_below (by (with_reducible repeat (first | apply Kd.R_alloc | apply Kd.R_drewN | apply Kd.R_drew)); exact HO_2.out) hb); have n1_ := Aside0.mk (Kd.R_below (by (with_reducible repeat (first | apply Kd.R_alloc | apply Kd.R_drewN | apply Kd.R_drew)); exact HO_10.out) hb); have n2_ := Aside0.mk (below_step (by repeat (first | (with_reducible first | exact HB.out | apply below_alloc | apply pw_below_drewN | apply below_drew1) | exact HB.out)) hb); clear HO_2; clear HO_10; clear HB; have HO_2 := n0_; have HO_10 := n1_; have HB := n2_; clear n0_ n1_ n2_; (try clear hb); (try clear hb2); (try clear hk); (try clear hi)) | (go_at_call 12; (with_reducible refine (cors_Check.calls k1 a0 a1 _ _ t364 t377 _ ?side1 ?side2 A19.out).mono ?_); (case side1 => repeat (first | exact (Kd.R_reads' HO_2.out).2.2 | (with_reducible refine Kd.C_alloc ?_ _) | (with_reducible refine Kd.C_drewN ?_ _) | (with_reducible refine Kd.C_drew ?_))); (case side2 => exact (Kd.R_reads' HO_2.out).2.1); rintro e w36 ⟨rfl, hb⟩; have n0_ := Aside0.mk (Kd.R_below (by (with_reducible repeat (first | apply Kd.R_alloc | apply Kd.R_drewN | apply Kd.R_drew)); exact HO_2.out) hb); have n1_ := Aside0.mk (Kd.R_below (by (with_reducible repeat (first | apply Kd.R_alloc | apply Kd.R_drewN | apply Kd.R_drew)); exact HO_10.out) hb); have n2_ := Aside0.mk (below_step (by repeat (first | (with_reducible first | exact HB.out | apply below_alloc | apply pw_below_drewN | apply below_drew1) | exact HB.out)) hb); clear HO_2; clear HO_10; clear HB; have HO_2 := n0_; have HO_10 := n1_; have HB := n2_; clear n0_ n1_ n2_; (try clear hb); (try clear hb2); (try clear hk); (try clear hi); obtain ⟨Ao37, co37, eo37⟩ := Kd.R_slice HO_10.out; subst eo37) | (go_at_call 12; (with_reducible refine (cors_Check.calls k1 a0 a1 _ _ x10_1 t378 _ ?side1 ?side2 A20.out).mono ?_); (case side1 => repeat (first | exact (Kd.R_reads' HO_10.out).2.2 | (with_reducible refine Kd.C_alloc ?_ _) | (with_reducible refine Kd.C_drewN ?_ _) | (with_reducible refine Kd.C_drew ?_))); (case side2 => exact (Kd.R_reads' HO_10.out).2.1); rintro e w38 ⟨rfl, hb⟩; have n0_ := Aside0.mk (Kd.R_below (by (with_reducible repeat (first | apply Kd.R_alloc | apply Kd.R_drewN | apply Kd.R_drew)); exact HO_2.out) hb); have n1_ := Aside0.mk (Kd.R_below (by (with_reducible repeat (first | apply Kd.R_alloc | apply Kd.R_drewN | apply Kd.R_drew)); exact HO_10.out) hb); have n2_ := Aside0.mk (below_step (by repeat (first | (with_reducible first | exact HB.out | apply below_alloc | apply pw_below_drewN | apply below_drew1) | exact HB.out)) hb); clear HO_2; clear HO_10; clear HB; have HO_2 := n0_; have HO_10 := n1_; have HB := n2_; clear n0_ n1_ n2_; (try clear hb); (try clear hb2); (try clear hk); (try clear hi)) | (go_at_call 14; (with_reducible refine (cors_Age.calls k1 _ _ t364 t379 _ ?side1 ?side2 A22.out).mono ?_); (case side1 => repeat (first | exact (Kd.R_reads' HO_2.out).2.2 | (with_reducible refine Kd.C_alloc ?_ _) | (with_reducible refine Kd.C_drewN ?_ _) | (with_reducible refine Kd.C_drew ?_))); (case side2 => exact (Kd.R_reads' HO_2.out).2.1); rintro e w39 ⟨rfl, hb⟩; have n0_ := Aside0.mk (Kd.R_below (by (with_reducible repeat (first | apply Kd.R_alloc | apply Kd.R_drewN | apply Kd.R_drew)); exact HO_2.out) hb); have n1_ := Aside0.mk (Kd.R_below (by (with_reducible repeat (first | apply Kd.R_alloc | apply Kd.R_drewN | apply Kd.R_drew)); exact HO_10.out) hb); have n2_ := Aside0.mk (below_step (by repeat (first | (with_reducible first | exact HB.out | apply below_alloc | apply pw_below_drewN | apply below_drew1) | exact HB.out)) hb); clear HO_2; clear HO_10; clear HB; have HO_2 := n0_; have HO_10 := n1_; have HB := n2_; clear n0_ n1_ n2_; (try clear hb); (try clear hb2); (try clear hk); (try clear hi)) | (go_at_call 14; (with_reducible refine (cors_Age.calls k1 _ _ x10_1 t380 _ ?side1 ?side2 A23.out).mono ?_); (case side1 => repeat (first | exact (Kd.R_reads' HO_10.out).2.2 | (with_reducible refine Kd.C_alloc ?_ _) | (with_reducible refine Kd.C_drewN ?_ _) | (with_reducible refine Kd.C_drew ?_))); (case side2 => exact (Kd.R_reads' HO_10.out).2.1); rintro e w40 ⟨rfl, hb⟩; have n0_ := Aside0.mk (Kd.R_below (by (with_reducible repeat (first | apply Kd.R_alloc | apply Kd.R_drewN | apply Kd.R_drew)); exact HO_2.out) hb); have n1_ := Aside0.mk (Kd.R_below (by (with_reducible repeat (first | apply Kd.R_alloc | apply Kd.R_drewN | apply Kd.R_drew)); exact HO_10.out) hb); have n2_ := Aside0.mk (below_step (by repeat (first | (with_reducible first | exact HB.out | apply below_alloc | apply pw_below_drewN | apply below_drew1) | exact HB.out)) hb); clear HO_2; clear HO_10; clear HB; have HO_2 := n0_; have HO_10 := n1_; have HB := n2_; clear n0_ n1_ n2_; (try clear hb); (try clear hb2); (try clear hk); (try clear hi)) | (go_at_call 19; (with_reducible refine (cors_Exposes.calls k1 a3 a1 _ _ t364 t381 _ ?side3 ?side1 ?side2 A25.out).mono ?_); (case side1 => repeat (first | exact (Kd.R_reads' HO_2.out).2.2 | (with_reducible refine Kd.C_alloc ?_ _) | (with_reducible refine Kd.C_drewN ?_ _) | (with_reducible refine Kd.C_drew ?_))); (case side2 => exact (Kd.R_reads' HO_2.out).2.1); (case side3 => exact Ext.tabs_at HT.out (by repeat (first | (with_reducible first | exact HB.out | apply below_alloc | apply pw_below_drewN | apply below_drew1) | exact HB.out))); rintro e w41 ⟨rfl, hb⟩; have n0_ := Aside0.mk (Kd.R_below (by (with_reducible repeat (first | apply Kd.R_alloc | apply Kd.R_drewN | apply Kd.R_drew)); exact HO_2.out) hb); have n1_ := Aside0.mk (Kd.R_below (by (with_reducible repeat (first | apply Kd.R_alloc | apply Kd.R_drewN | apply Kd.R_drew)); exact HO_10.out) hb); have n2_ := Aside0.mk (below_step (by repeat (first | (with_reducible first | exact HB.out | apply below_alloc | apply pw_below_drewN | apply below_drew1) | exact HB.out)) hb); clear HO_2; clear HO_10; clear HB; have HO_2 := n0_; have HO_10 := n1_; have HB := n2_; clear n0_ n1_ n2_; (try clear hb); (try clear hb2); (try clear hk); (try clear hi)) | (go_at_call 19; (with_reducible refine (cors_Exposes.calls k1 t376 a1 _ _ x10_1 t382 _ ?side3 ?side1 ?side2 A26.out).mono ?_); (case side1 => repeat (first | exact (Kd.R_reads' HO_10.out).2.2 | (with_reducible refine Kd.C_alloc ?_ _) | (with_reducible refine Kd.C_drewN ?_ _) | (with_reducible refine Kd.C_drew ?_))); (case side2 => exact (Kd.R_reads' HO_10.out).2.1); (case side3 => exact Ext.tabs_at HT.out (by repeat (first | (with_reducible first | exact HB.out | apply below_alloc | apply pw_below_drewN | apply below_drew1) | exact HB.out))); rintro e w42 ⟨rfl, hb⟩; have n0_ := Aside0.mk (Kd.R_below (by (with_reducible repeat (first | apply Kd.R_alloc | apply Kd.R_drewN | apply Kd.R_drew)); exact HO_2.out) hb); have n1_ := Aside0.mk (Kd.R_below (by (with_reducible repeat (first | apply Kd.R_alloc | apply Kd.R_drewN | apply Kd.R_drew)); exact HO_10.out) hb); have n2_ := Aside0.mk (below_step (by repeat (first | (with_reducible first | exact HB.out | apply below_alloc | apply pw_below_drewN | apply below_drew1) | exact HB.out)) hb); clear HO_2; clear HO_10; clear HB; have HO_2 := n0_; have HO_10 := n1_; have HB := n2_; clear n0_ n1_ n2_; (try clear hb); (try clear hb2); (try clear hk); (try clear hi)) | ((with_reducible refine gate_dst (N := 76) rfl ?_); (try (refine gate_guard (by rfl) ?_; dsimp only)); refine Kd.R_lit Kd.string _ 9 ?hg (N := 76) ?hd (xs := ([a3] : List ByteArray)) (inner := [.string a3]) (ok := fun _ => True) (okp := fun _ => True) ?hr ?hp (fun _ hk => hk) trivial (Below.refl _ _) (Nat.le_refl _) (by simp) ?_; (case hd => rfl); (case hg => rfl); (case hr => first | (go_simp; done) | (go_simp; rfl)); (case hp => exact (Reps.one (show Kd.M Kd.string _ _ _ a3 [.string a3] from rfl) (Reps.none _ _))); intro v384 w43 ho44 hb hg_ hnew_; clear hg_ hnew_; (first | rw [← Ny383.out] at ho44 | (simp only [Int.reduceToNat] at ho44; rw [← Ny383.out] at ho44)); have n0_ := Aside0.mk (Kd.R_below (by (with_reducible repeat (first | apply Kd.R_alloc | apply Kd.R_drewN | apply Kd.R_drew)); exact HO_2.out) hb); have n1_ := Aside0.mk (Kd.R_below (by (with_reducible repeat (first | apply Kd.R_alloc | apply Kd.R_drewN | apply Kd.R_drew)); exact HO_10.out) hb); have n2_ := Aside0.mk (Kd.R_lower ho44 (below_size (by repeat (first | (with_reducible first | exact HB.out | apply below_alloc | apply pw_below_drewN | apply below_drew1) | exact HB.out)))); have n3_ := Aside0.mk (below_step (by repeat (first | (with_reducible first | exact HB.out | apply below_alloc | apply pw_below_drewN | apply below_drew1) | exact HB.out)) hb); clear HO_2; clear HO_10; clear HB; have HO_2 := n0_; have HO_10 := n1_; have HO385 := n2_; have HB := n3_; clear n0_ n1_ n2_ n3_; clear hb ho44; obtain ⟨Ao45, co45, eo45⟩ := Kd.R_slice HO385.out; subst eo45) | (go_at_call 21; (with_reducible refine (cors_Preflight.calls k1 a0 a1 (⟨#[80, 85, 84]⟩ : ByteArray) _ _ y383 200 _ _ t364 t386 _ ?side5 ?side1 ?side2 ?side3 ?side4 A28.out).mono ?_); (case side1 => repeat (first | exact (Kd.R_reads' HO385.out).2.2 | (with_reducible refine Kd.C_alloc ?_ _) | (with_reducible refine Kd.C_drewN ?_ _) | (with_reducible refine Kd.C_drew ?_))); (case side2 => exact (Kd.R_reads' HO385.out).2.1); (case side3 => repeat (first | exact (Kd.R_reads' HO_2.out).2.2 | (with_reducible refine Kd.C_alloc ?_ _) | (with_reducible refine Kd.C_drewN ?_ _) | (with_reducible refine Kd.C_drew ?_))); (case side4 => exact (Kd.R_reads' HO_2.out).2.1); (case side5 => exact Ext.tabs_at HT.out (by repeat (first | (with_reducible first | exact HB.out | apply below_alloc | apply pw_below_drewN | apply below_drew1) | exact HB.out))); rintro e w46 ⟨rfl, hb⟩; have n0_ := Aside0.mk (Kd.R_below (by (with_reducible repeat (first | apply Kd.R_alloc | apply Kd.R_drewN | apply Kd.R_drew)); exact HO_2.out) hb); have n1_ := Aside0.mk (Kd.R_below (by (with_reducible repeat (first | apply Kd.R_alloc | apply Kd.R_drewN | apply Kd.R_drew)); exact HO_10.out) hb); have n2_ := Aside0.mk (Kd.R_below (by (with_reducible repeat (first | apply Kd.R_alloc | apply Kd.R_drewN | apply Kd.R_drew)); exact HO385.out) hb); have n3_ := Aside0.mk (below_step (by repeat (first | (with_reducible first | exact HB.out | apply below_alloc | apply pw_below_drewN | apply below_drew1) | exact HB.out)) hb); clear HO_2; clear HO_10; clear HO385; clear HB; have HO_2 := n0_; have HO_10 := n1_; have HO385 := n2_; have HB := n3_; clear n0_ n1_ n2_ n3_; (try clear hb); (try clear hb2); (try clear hk); (try clear hi)) | ((with_reducible refine gate_dst (N := 82) rfl ?_); (try (refine gate_guard (by rfl) ?_; dsimp only)); refine Kd.R_lit Kd.string _ 9 ?hg (N := 82) ?hd (xs := ([t376] : List ByteArray)) (inner := [.string t376]) (ok := fun _ => True) (okp := fun _ => True) ?hr ?hp (fun _ hk => hk) trivial (Below.refl _ _) (Nat.le_refl _) (by simp) ?_; (case hd => rfl); (case hg => rfl); (case hr => first | (go_simp; done) | (go_simp; rfl)); (case hp => exact (Reps.one (show Kd.M Kd.string _ _ _ t376 [.string t376] from rfl) (Reps.none _ _))); intro v388 w47 ho48 hb hg_ hnew_; clear hg_ hnew_; (first | rw [← Ny387.out] at ho48 | (simp only [Int.reduceToNat] at ho48; rw [← Ny387.out] at ho48)); have n0_ := Aside0.mk (Kd.R_below (by (with_reducible repeat (first | apply Kd.R_alloc | apply Kd.R_drewN | apply Kd.R_drew)); exact HO_2.out) hb); have n1_ := Aside0.mk (Kd.R_below (by (with_reducible repeat (first | apply Kd.R_alloc | apply Kd.R_drewN | apply Kd.R_drew)); exact HO_10.out) hb); have n2_ := Aside0.mk (Kd.R_elder' (by (with_reducible repeat (first | apply Kd.R_alloc | apply Kd.R_drewN | apply Kd.R_drew)); exact HO385.out) (Kd.R_base ho48) hb); have n3_ := Aside0.mk (Kd.R_lower (Kd.R_new' ho48 (Kd.R_lt (by (with_reducible repeat (first | apply Kd.R_alloc | apply Kd.R_drewN | apply Kd.R_drew)); exact HO385.out))) (below_size (by repeat (first | (with_reducible first | exact HB.out | apply below_alloc | apply pw_below_drewN | apply below_drew1) | exact HB.out)))); have n4_ := Aside0.mk (below_step (by repeat (first | (with_reducible first | exact HB.out | apply below_alloc | apply pw_below_drewN | apply below_drew1) | exact HB.out)) hb); clear HO_2; clear HO_10; clear HO385; clear HB; have HO_2 := n0_; have HO_10 := n1_; have HO385 := n2_; have HO389 := n3_; have HB := n4_; clear n0_ n1_ n2_ n3_ n4_; clear hb ho48; obtain ⟨Ao49, co49, eo49⟩ := Kd.R_slice HO389.out; subst eo49) | (go_at_call 21; (with_reducible refine (cors_Preflight.calls k1 a0 a1 (⟨#[112, 117, 116]⟩ : ByteArray) _ _ y387 200 _ _ x10_1 t390 _ ?side5 ?side1 ?side2 ?side3 ?side4 A29.out).mono ?_); (case side1 => repeat (first | exact (Kd.R_reads' HO389.out).2.2 | (with_reducible refine Kd.C_alloc ?_ _) | (with_reducible refine Kd.C_drewN ?_ _) | (with_reducible refine Kd.C_drew ?_))); (case side2 => exact (Kd.R_reads' HO389.out).2.1); (case side3 => repeat (first | exact (Kd.R_reads' HO_10.out).2.2 | (with_reducible refine Kd.C_alloc ?_ _) | (with_reducible refine Kd.C_drewN ?_ _) | (with_reducible refine Kd.C_drew ?_))); (case side4 => exact (Kd.R_reads' HO_10.out).2.1); (case side5 => exact Ext.tabs_at HT.out (by repeat (first | (with_reducible first | exact HB.out | apply below_alloc | apply pw_below_drewN | apply below_drew1) | exact HB.out))); rintro e w50 ⟨rfl, hb⟩; have n0_ := Aside0.mk (Kd.R_below (by (with_reducible repeat (first | apply Kd.R_alloc | apply Kd.R_drewN | apply Kd.R_drew)); exact HO_2.out) hb); have n1_ := Aside0.mk (Kd.R_below (by (with_reducible repeat (first | apply Kd.R_alloc | apply Kd.R_drewN | apply Kd.R_drew)); exact HO_10.out) hb); have n2_ := Aside0.mk (Kd.R_below (by (with_reducible repeat (first | apply Kd.R_alloc | apply Kd.R_drewN | apply Kd.R_drew)); exact HO385.out) hb); have n3_ := Aside0.mk (Kd.R_below (by (with_reducible repeat (first | apply Kd.R_alloc | apply Kd.R_drewN | apply Kd.R_drew)); exact HO389.out) hb); have n4_ := Aside0.mk (below_step (by repeat (first | (with_reducible first | exact HB.out | apply below_alloc | apply pw_below_drewN | apply below_drew1) | exact HB.out)) hb); clear HO_2; clear HO_10; clear HO385; clear HO389; clear HB; have HO_2 := n0_; have HO_10 := n1_; have HO385 := n2_; have HO389 := n3_; have HB := n4_; clear n0_ n1_ n2_ n3_ n4_; (try clear hb); (try clear hb2); (try clear hk); (try clear hi)) | (go_at_call 19; (with_reducible refine (cors_Exposes.calls k1 a3 true _ _ t364 true _ ?side3 ?side1 ?side2 A31.out).mono ?_); (case side1 => repeat (first | exact (Kd.R_reads' HO_2.out).2.2 | (with_reducible refine Kd.C_alloc ?_ _) | (with_reducible refine Kd.C_drewN ?_ _) | (with_reducible refine Kd.C_drew ?_))); (case side2 => exact (Kd.R_reads' HO_2.out).2.1); (case side3 => exact Ext.tabs_at HT.out (by repeat (first | (with_reducible first | exact HB.out | apply below_alloc | apply pw_below_drewN | apply below_drew1) | exact HB.out))); rintro e w51 ⟨rfl, hb⟩; have n0_ := Aside0.mk (Kd.R_below (by (with_reducible repeat (first | apply Kd.R_alloc | apply Kd.R_drewN | apply Kd.R_drew)); exact HO_2.out) hb); have n1_ := Aside0.mk (Kd.R_below (by (with_reducible repeat (first | apply Kd.R_alloc | apply Kd.R_drewN | apply Kd.R_drew)); exact HO_10.out) hb); have n2_ := Aside0.mk (Kd.R_below (by (with_reducible repeat (first | apply Kd.R_alloc | apply Kd.R_drewN | apply Kd.R_drew)); exact HO385.out) hb); have n3_ := Aside0.mk (Kd.R_below (by (with_reducible repeat (first | apply Kd.R_alloc | apply Kd.R_drewN | apply Kd.R_drew)); exact HO389.out) hb); have n4_ := Aside0.mk (below_step (by repeat (first | (with_reducible first | exact HB.out | apply below_alloc | apply pw_below_drewN | apply below_drew1) | exact HB.out)) hb); clear HO_2; clear HO_10; clear HO385; clear HO389; clear HB; have HO_2 := n0_; have HO_10 := n1_; have HO385 := n2_; have HO389 := n3_; have HB := n4_; clear n0_ n1_ n2_ n3_ n4_; (try clear hb); (try clear hb2); (try clear hk); (try clear hi)) | (go_at_call 19; (with_reducible refine (cors_Exposes.calls k1 a3 false _ _ t364 t392 _ ?side3 ?side1 ?side2 A33.out).mono ?_); (case side1 => repeat (first | exact (Kd.R_reads' HO_2.out).2.2 | (with_reducible refine Kd.C_alloc ?_ _) | (with_reducible refine Kd.C_drewN ?_ _) | (with_reducible refine Kd.C_drew ?_))); (case side2 => exact (Kd.R_reads' HO_2.out).2.1); (case side3 => exact Ext.tabs_at HT.out (by repeat (first | (with_reducible first | exact HB.out | apply below_alloc | apply pw_below_drewN | apply below_drew1) | exact HB.out))); rintro e w52 ⟨rfl, hb⟩; have n0_ := Aside0.mk (Kd.R_below (by (with_reducible repeat (first | apply Kd.R_alloc | apply Kd.R_drewN | apply Kd.R_drew)); exact HO_2.out) hb); have n1_ := Aside0.mk (Kd.R_below (by (with_reducible repeat (first | apply Kd.R_alloc | apply Kd.R_drewN | apply Kd.R_drew)); exact HO_10.out) hb); have n2_ := Aside0.mk (Kd.R_below (by (with_reducible repeat (first | apply Kd.R_alloc | apply Kd.R_drewN | apply Kd.R_drew)); exact HO385.out) hb); have n3_ := Aside0.mk (Kd.R_below (by (with_reducible repeat (first | apply Kd.R_alloc | apply Kd.R_drewN | apply Kd.R_drew)); exact HO389.out) hb); have n4_ := Aside0.mk (below_step (by repeat (first | (with_reducible first | exact HB.out | apply below_alloc | apply pw_below_drewN | apply below_drew1) | exact HB.out)) hb); clear HO_2; clear HO_10; clear HO385; clear HO389; clear HB; have HO_2 := n0_; have HO_10 := n1_; have HO385 := n2_; have HO389 := n3_; have HB := n4_; clear n0_ n1_ n2_ n3_ n4_; (try clear hb); (try clear hb2); (try clear hk); (try clear hi)))
                    all_goals (try (exfalso; omega))
                    all_goals go_ret
                    all_goals exact ⟨by first | rfl | (simp [errW_none, errW_some] <;> rfl) | (simp [*, errW_none, errW_some] <;> rfl) | (simp [Ext.ne_nil_empty]; done), by repeat (first | (with_reducible first | exact HB.out | apply below_alloc | apply pw_below_drewN | apply below_drew1) | exact HB.out)⟩
                  · replace c32 := Bool.eq_false_iff.mpr c32
                    subst c32
                    have H1 : (some true) = some true := rfl
                    clear H
                    have H := H1
                    clear H1
                    first | (revert H; simp only [Option.some.injEq, Bool.false_eq_true, false_implies]; done) | (have hv_ := Option.some.inj H)
                    all_goals obtain ⟨Ao53, co53, eo53⟩ := Kd.R_slice HO_2.out
                    all_goals subst eo53
                    all_goals go_wp2_with (first | ((with_reducible refine gate_callee (f := 23) rfl ?_); refine goesL_ (some 41) rfl rfl Tryd.func23 (by kernel_rfl) rfl #[.string a3] rfl (by (try simp only [List.map_toArray, List.map_cons, List.map_nil]); first | done | rfl | (simp only [List.length_drop, List.length_take]; rfl)) ?_; (with_reducible refine (Ext.token_Lower.calls a3 t376 _ A17.out).mono ?_); rintro e w54 ⟨rfl, hb⟩; refine ⟨_, rfl, ?_⟩; have n0_ := Aside0.mk (Kd.R_below (by (with_reducible repeat (first | apply Kd.R_alloc | apply Kd.R_drewN | apply Kd.R_drew)); exact HO_2.out) hb); have n1_ := Aside0.mk (Kd.R_below (by (with_reducible repeat (first | apply Kd.R_alloc | apply Kd.R_drewN | apply Kd.R_drew)); exact HO_10.out) hb); have n2_ := Aside0.mk (below_step (by repeat (first | (with_reducible first | exact HB.out | apply below_alloc | apply pw_below_drewN | apply below_drew1) | exact HB.out)) hb); clear HO_2; clear HO_10; clear HB; have HO_2 := n0_; have HO_10 := n1_; have HB := n2_; clear n0_ n1_ n2_; (try clear hb); (try clear hb2); (try clear hk); (try clear hi)) | (go_at_call 12; (with_reducible refine (cors_Check.calls k1 a0 a1 _ _ t364 t377 _ ?side1 ?side2 A19.out).mono ?_); (case side1 => repeat (first | exact (Kd.R_reads' HO_2.out).2.2 | (with_reducible refine Kd.C_alloc ?_ _) | (with_reducible refine Kd.C_drewN ?_ _) | (with_reducible refine Kd.C_drew ?_))); (case side2 => exact (Kd.R_reads' HO_2.out).2.1); rintro e w55 ⟨rfl, hb⟩; have n0_ := Aside0.mk (Kd.R_below (by (with_reducible repeat (first | apply Kd.R_alloc | apply Kd.R_drewN | apply Kd.R_drew)); exact HO_2.out) hb); have n1_ := Aside0.mk (Kd.R_below (by (with_reducible repeat (first | apply Kd.R_alloc | apply Kd.R_drewN | apply Kd.R_drew)); exact HO_10.out) hb); have n2_ := Aside0.mk (below_step (by repeat (first | (with_reducible first | exact HB.out | apply below_alloc | apply pw_below_drewN | apply below_drew1) | exact HB.out)) hb); clear HO_2; clear HO_10; clear HB; have HO_2 := n0_; have HO_10 := n1_; have HB := n2_; clear n0_ n1_ n2_; (try clear hb); (try clear hb2); (try clear hk); (try clear hi); obtain ⟨Ao56, co56, eo56⟩ := Kd.R_slice HO_10.out; subst eo56) | (go_at_call 12; (with_reducible refine (cors_Check.calls k1 a0 a1 _ _ x10_1 t378 _ ?side1 ?side2 A20.out).mono ?_); (case side1 => repeat (first | exact (Kd.R_reads' HO_10.out).2.2 | (with_reducible refine Kd.C_alloc ?_ _) | (with_reducible refine Kd.C_drewN ?_ _) | (with_reducible refine Kd.C_drew ?_))); (case side2 => exact (Kd.R_reads' HO_10.out).2.1); rintro e w57 ⟨rfl, hb⟩; have n0_ := Aside0.mk (Kd.R_below (by (with_reducible repeat (first | apply Kd.R_alloc | apply Kd.R_drewN | apply Kd.R_drew)); exact HO_2.out) hb); have n1_ := Aside0.mk (Kd.R_below (by (with_reducible repeat (first | apply Kd.R_alloc | apply Kd.R_drewN | apply Kd.R_drew)); exact HO_10.out) hb); have n2_ := Aside0.mk (below_step (by repeat (first | (with_reducible first | exact HB.out | apply below_alloc | apply pw_below_drewN | apply below_drew1) | exact HB.out)) hb); clear HO_2; clear HO_10; clear HB; have HO_2 := n0_; have HO_10 := n1_; have HB := n2_; clear n0_ n1_ n2_; (try clear hb); (try clear hb2); (try clear hk); (try clear hi)) | (go_at_call 14; (with_reducible refine (cors_Age.calls k1 _ _ t364 t379 _ ?side1 ?side2 A22.out).mono ?_); (case side1 => repeat (first | exact (Kd.R_reads' HO_2.out).2.2 | (with_reducible refine Kd.C_alloc ?_ _) | (with_reducible refine Kd.C_drewN ?_ _) | (with_reducible refine Kd.C_drew ?_))); (case side2 => exact (Kd.R_reads' HO_2.out).2.1); rintro e w58 ⟨rfl, hb⟩; have n0_ := Aside0.mk (Kd.R_below (by (with_reducible repeat (first | apply Kd.R_alloc | apply Kd.R_drewN | apply Kd.R_drew)); exact HO_2.out) hb); have n1_ := Aside0.mk (Kd.R_below (by (with_reducible repeat (first | apply Kd.R_alloc | apply Kd.R_drewN | apply Kd.R_drew)); exact HO_10.out) hb); have n2_ := Aside0.mk (below_step (by repeat (first | (with_reducible first | exact HB.out | apply below_alloc | apply pw_below_drewN | apply below_drew1) | exact HB.out)) hb); clear HO_2; clear HO_10; clear HB; have HO_2 := n0_; have HO_10 := n1_; have HB := n2_; clear n0_ n1_ n2_; (try clear hb); (try clear hb2); (try clear hk); (try clear hi)) | (go_at_call 14; (with_reducible refine (cors_Age.calls k1 _ _ x10_1 t380 _ ?side1 ?side2 A23.out).mono ?_); (case side1 => repeat (first | exact (Kd.R_reads' HO_10.out).2.2 | (with_reducible refine Kd.C_alloc ?_ _) | (with_reducible refine Kd.C_drewN ?_ _) | (with_reducible refine Kd.C_drew ?_))); (case side2 => exact (Kd.R_reads' HO_10.out).2.1); rintro e w59 ⟨rfl, hb⟩; have n0_ := Aside0.mk (Kd.R_below (by (with_reducible repeat (first | apply Kd.R_alloc | apply Kd.R_drewN | apply Kd.R_drew)); exact HO_2.out) hb); have n1_ := Aside0.mk (Kd.R_below (by (with_reducible repeat (first | apply Kd.R_alloc | apply Kd.R_drewN | apply Kd.R_drew)); exact HO_10.out) hb); have n2_ := Aside0.mk (below_step (by repeat (first | (with_reducible first | exact HB.out | apply below_alloc | apply pw_below_drewN | apply below_drew1) | exact HB.out)) hb); clear HO_2; clear HO_10; clear HB; have HO_2 := n0_; have HO_10 := n1_; have HB := n2_; clear n0_ n1_ n2_; (try clear hb); (try clear hb2); (try clear hk); (try clear hi)) | (go_at_call 19; (with_reducible refine (cors_Exposes.calls k1 a3 a1 _ _ t364 t381 _ ?side3 ?side1 ?side2 A25.out).mono ?_); (case side1 => repeat (first | exact (Kd.R_reads' HO_2.out).2.2 | (with_reducible refine Kd.C_alloc ?_ _) | (with_reducible refine Kd.C_drewN ?_ _) | (with_reducible refine Kd.C_drew ?_))); (case side2 => exact (Kd.R_reads' HO_2.out).2.1); (case side3 => exact Ext.tabs_at HT.out (by repeat (first | (with_reducible first | exact HB.out | apply below_alloc | apply pw_below_drewN | apply below_drew1) | exact HB.out))); rintro e w60 ⟨rfl, hb⟩; have n0_ := Aside0.mk (Kd.R_below (by (with_reducible repeat (first | apply Kd.R_alloc | apply Kd.R_drewN | apply Kd.R_drew)); exact HO_2.out) hb); have n1_ := Aside0.mk (Kd.R_below (by (with_reducible repeat (first | apply Kd.R_alloc | apply Kd.R_drewN | apply Kd.R_drew)); exact HO_10.out) hb); have n2_ := Aside0.mk (below_step (by repeat (first | (with_reducible first | exact HB.out | apply below_alloc | apply pw_below_drewN | apply below_drew1) | exact HB.out)) hb); clear HO_2; clear HO_10; clear HB; have HO_2 := n0_; have HO_10 := n1_; have HB := n2_; clear n0_ n1_ n2_; (try clear hb); (try clear hb2); (try clear hk); (try clear hi)) | (go_at_call 19; (with_reducible refine (cors_Exposes.calls k1 t376 a1 _ _ x10_1 t382 _ ?side3 ?side1 ?side2 A26.out).mono ?_); (case side1 => repeat (first | exact (Kd.R_reads' HO_10.out).2.2 | (with_reducible refine Kd.C_alloc ?_ _) | (with_reducible refine Kd.C_drewN ?_ _) | (with_reducible refine Kd.C_drew ?_))); (case side2 => exact (Kd.R_reads' HO_10.out).2.1); (case side3 => exact Ext.tabs_at HT.out (by repeat (first | (with_reducible first | exact HB.out | apply below_alloc | apply pw_below_drewN | apply below_drew1) | exact HB.out))); rintro e w61 ⟨rfl, hb⟩; have n0_ := Aside0.mk (Kd.R_below (by (with_reducible repeat (first | apply Kd.R_alloc | apply Kd.R_drewN | apply Kd.R_drew)); exact HO_2.out) hb); have n1_ := Aside0.mk (Kd.R_below (by (with_reducible repeat (first | apply Kd.R_alloc | apply Kd.R_drewN | apply Kd.R_drew)); exact HO_10.out) hb); have n2_ := Aside0.mk (below_step (by repeat (first | (with_reducible first | exact HB.out | apply below_alloc | apply pw_below_drewN | apply below_drew1) | exact HB.out)) hb); clear HO_2; clear HO_10; clear HB; have HO_2 := n0_; have HO_10 := n1_; have HB := n2_; clear n0_ n1_ n2_; (try clear hb); (try clear hb2); (try clear hk); (try clear hi)) | ((with_reducible refine gate_dst (N := 76) rfl ?_); (try (refine gate_guard (by rfl) ?_; dsimp only)); refine Kd.R_lit Kd.string _ 9 ?hg (N := 76) ?hd (xs := ([a3] : List ByteArray)) (inner := [.string a3]) (ok := fun _ => True) (okp := fun _ => True) ?hr ?hp (fun _ hk => hk) trivial (Below.refl _ _) (Nat.le_refl _) (by simp) ?_; (case hd => rfl); (case hg => rfl); (case hr => first | (go_simp; done) | (go_simp; rfl)); (case hp => exact (Reps.one (show Kd.M Kd.string _ _ _ a3 [.string a3] from rfl) (Reps.none _ _))); intro v384 w62 ho63 hb hg_ hnew_; clear hg_ hnew_; (first | rw [← Ny383.out] at ho63 | (simp only [Int.reduceToNat] at ho63; rw [← Ny383.out] at ho63)); have n0_ := Aside0.mk (Kd.R_below (by (with_reducible repeat (first | apply Kd.R_alloc | apply Kd.R_drewN | apply Kd.R_drew)); exact HO_2.out) hb); have n1_ := Aside0.mk (Kd.R_below (by (with_reducible repeat (first | apply Kd.R_alloc | apply Kd.R_drewN | apply Kd.R_drew)); exact HO_10.out) hb); have n2_ := Aside0.mk (Kd.R_lower ho63 (below_size (by repeat (first | (with_reducible first | exact HB.out | apply below_alloc | apply pw_below_drewN | apply below_drew1) | exact HB.out)))); have n3_ := Aside0.mk (below_step (by repeat (first | (with_reducible first | exact HB.out | apply below_alloc | apply pw_below_drewN | apply below_drew1) | exact HB.out)) hb); clear HO_2; clear HO_10; clear HB; have HO_2 := n0_; have HO_10 := n1_; have HO385 := n2_; have HB := n3_; clear n0_ n1_ n2_ n3_; clear hb ho63; obtain ⟨Ao64, co64, eo64⟩ := Kd.R_slice HO385.out; subst eo64) | (go_at_call 21; (with_reducible refine (cors_Preflight.calls k1 a0 a1 (⟨#[80, 85, 84]⟩ : ByteArray) _ _ y383 200 _ _ t364 t386 _ ?side5 ?side1 ?side2 ?side3 ?side4 A28.out).mono ?_); (case side1 => repeat (first | exact (Kd.R_reads' HO385.out).2.2 | (with_reducible refine Kd.C_alloc ?_ _) | (with_reducible refine Kd.C_drewN ?_ _) | (with_reducible refine Kd.C_drew ?_))); (case side2 => exact (Kd.R_reads' HO385.out).2.1); (case side3 => repeat (first | exact (Kd.R_reads' HO_2.out).2.2 | (with_reducible refine Kd.C_alloc ?_ _) | (with_reducible refine Kd.C_drewN ?_ _) | (with_reducible refine Kd.C_drew ?_))); (case side4 => exact (Kd.R_reads' HO_2.out).2.1); (case side5 => exact Ext.tabs_at HT.out (by repeat (first | (with_reducible first | exact HB.out | apply below_alloc | apply pw_below_drewN | apply below_drew1) | exact HB.out))); rintro e w65 ⟨rfl, hb⟩; have n0_ := Aside0.mk (Kd.R_below (by (with_reducible repeat (first | apply Kd.R_alloc | apply Kd.R_drewN | apply Kd.R_drew)); exact HO_2.out) hb); have n1_ := Aside0.mk (Kd.R_below (by (with_reducible repeat (first | apply Kd.R_alloc | apply Kd.R_drewN | apply Kd.R_drew)); exact HO_10.out) hb); have n2_ := Aside0.mk (Kd.R_below (by (with_reducible repeat (first | apply Kd.R_alloc | apply Kd.R_drewN | apply Kd.R_drew)); exact HO385.out) hb); have n3_ := Aside0.mk (below_step (by repeat (first | (with_reducible first | exact HB.out | apply below_alloc | apply pw_below_drewN | apply below_drew1) | exact HB.out)) hb); clear HO_2; clear HO_10; clear HO385; clear HB; have HO_2 := n0_; have HO_10 := n1_; have HO385 := n2_; have HB := n3_; clear n0_ n1_ n2_ n3_; (try clear hb); (try clear hb2); (try clear hk); (try clear hi)) | ((with_reducible refine gate_dst (N := 82) rfl ?_); (try (refine gate_guard (by rfl) ?_; dsimp only)); refine Kd.R_lit Kd.string _ 9 ?hg (N := 82) ?hd (xs := ([t376] : List ByteArray)) (inner := [.string t376]) (ok := fun _ => True) (okp := fun _ => True) ?hr ?hp (fun _ hk => hk) trivial (Below.refl _ _) (Nat.le_refl _) (by simp) ?_; (case hd => rfl); (case hg => rfl); (case hr => first | (go_simp; done) | (go_simp; rfl)); (case hp => exact (Reps.one (show Kd.M Kd.string _ _ _ t376 [.string t376] from rfl) (Reps.none _ _))); intro v388 w66 ho67 hb hg_ hnew_; clear hg_ hnew_; (first | rw [← Ny387.out] at ho67 | (simp only [Int.reduceToNat] at ho67; rw [← Ny387.out] at ho67)); have n0_ := Aside0.mk (Kd.R_below (by (with_reducible repeat (first | apply Kd.R_alloc | apply Kd.R_drewN | apply Kd.R_drew)); exact HO_2.out) hb); have n1_ := Aside0.mk (Kd.R_below (by (with_reducible repeat (first | apply Kd.R_alloc | apply Kd.R_drewN | apply Kd.R_drew)); exact HO_10.out) hb); have n2_ := Aside0.mk (Kd.R_elder' (by (with_reducible repeat (first | apply Kd.R_alloc | apply Kd.R_drewN | apply Kd.R_drew)); exact HO385.out) (Kd.R_base ho67) hb); have n3_ := Aside0.mk (Kd.R_lower (Kd.R_new' ho67 (Kd.R_lt (by (with_reducible repeat (first | apply Kd.R_alloc | apply Kd.R_drewN | apply Kd.R_drew)); exact HO385.out))) (below_size (by repeat (first | (with_reducible first | exact HB.out | apply below_alloc | apply pw_below_drewN | apply below_drew1) | exact HB.out)))); have n4_ := Aside0.mk (below_step (by repeat (first | (with_reducible first | exact HB.out | apply below_alloc | apply pw_below_drewN | apply below_drew1) | exact HB.out)) hb); clear HO_2; clear HO_10; clear HO385; clear HB; have HO_2 := n0_; have HO_10 := n1_; have HO385 := n2_; have HO389 := n3_; have HB := n4_; clear n0_ n1_ n2_ n3_ n4_; clear hb ho67; obtain ⟨Ao68, co68, eo68⟩ := Kd.R_slice HO389.out; subst eo68) | (go_at_call 21; (with_reducible refine (cors_Preflight.calls k1 a0 a1 (⟨#[112, 117, 116]⟩ : ByteArray) _ _ y387 200 _ _ x10_1 t390 _ ?side5 ?side1 ?side2 ?side3 ?side4 A29.out).mono ?_); (case side1 => repeat (first | exact (Kd.R_reads' HO389.out).2.2 | (with_reducible refine Kd.C_alloc ?_ _) | (with_reducible refine Kd.C_drewN ?_ _) | (with_reducible refine Kd.C_drew ?_))); (case side2 => exact (Kd.R_reads' HO389.out).2.1); (case side3 => repeat (first | exact (Kd.R_reads' HO_10.out).2.2 | (with_reducible refine Kd.C_alloc ?_ _) | (with_reducible refine Kd.C_drewN ?_ _) | (with_reducible refine Kd.C_drew ?_))); (case side4 => exact (Kd.R_reads' HO_10.out).2.1); (case side5 => exact Ext.tabs_at HT.out (by repeat (first | (with_reducible first | exact HB.out | apply below_alloc | apply pw_below_drewN | apply below_drew1) | exact HB.out))); rintro e w69 ⟨rfl, hb⟩; have n0_ := Aside0.mk (Kd.R_below (by (with_reducible repeat (first | apply Kd.R_alloc | apply Kd.R_drewN | apply Kd.R_drew)); exact HO_2.out) hb); have n1_ := Aside0.mk (Kd.R_below (by (with_reducible repeat (first | apply Kd.R_alloc | apply Kd.R_drewN | apply Kd.R_drew)); exact HO_10.out) hb); have n2_ := Aside0.mk (Kd.R_below (by (with_reducible repeat (first | apply Kd.R_alloc | apply Kd.R_drewN | apply Kd.R_drew)); exact HO385.out) hb); have n3_ := Aside0.mk (Kd.R_below (by (with_reducible repeat (first | apply Kd.R_alloc | apply Kd.R_drewN | apply Kd.R_drew)); exact HO389.out) hb); have n4_ := Aside0.mk (below_step (by repeat (first | (with_reducible first | exact HB.out | apply below_alloc | apply pw_below_drewN | apply below_drew1) | exact HB.out)) hb); clear HO_2; clear HO_10; clear HO385; clear HO389; clear HB; have HO_2 := n0_; have HO_10 := n1_; have HO385 := n2_; have HO389 := n3_; have HB := n4_; clear n0_ n1_ n2_ n3_ n4_; (try clear hb); (try clear hb2); (try clear hk); (try clear hi)) | (go_at_call 19; (with_reducible refine (cors_Exposes.calls k1 a3 true _ _ t364 false _ ?side3 ?side1 ?side2 A31.out).mono ?_); (case side1 => repeat (first | exact (Kd.R_reads' HO_2.out).2.2 | (with_reducible refine Kd.C_alloc ?_ _) | (with_reducible refine Kd.C_drewN ?_ _) | (with_reducible refine Kd.C_drew ?_))); (case side2 => exact (Kd.R_reads' HO_2.out).2.1); (case side3 => exact Ext.tabs_at HT.out (by repeat (first | (with_reducible first | exact HB.out | apply below_alloc | apply pw_below_drewN | apply below_drew1) | exact HB.out))); rintro e w70 ⟨rfl, hb⟩; have n0_ := Aside0.mk (Kd.R_below (by (with_reducible repeat (first | apply Kd.R_alloc | apply Kd.R_drewN | apply Kd.R_drew)); exact HO_2.out) hb); have n1_ := Aside0.mk (Kd.R_below (by (with_reducible repeat (first | apply Kd.R_alloc | apply Kd.R_drewN | apply Kd.R_drew)); exact HO_10.out) hb); have n2_ := Aside0.mk (Kd.R_below (by (with_reducible repeat (first | apply Kd.R_alloc | apply Kd.R_drewN | apply Kd.R_drew)); exact HO385.out) hb); have n3_ := Aside0.mk (Kd.R_below (by (with_reducible repeat (first | apply Kd.R_alloc | apply Kd.R_drewN | apply Kd.R_drew)); exact HO389.out) hb); have n4_ := Aside0.mk (below_step (by repeat (first | (with_reducible first | exact HB.out | apply below_alloc | apply pw_below_drewN | apply below_drew1) | exact HB.out)) hb); clear HO_2; clear HO_10; clear HO385; clear HO389; clear HB; have HO_2 := n0_; have HO_10 := n1_; have HO385 := n2_; have HO389 := n3_; have HB := n4_; clear n0_ n1_ n2_ n3_ n4_; (try clear hb); (try clear hb2); (try clear hk); (try clear hi)))
                    all_goals (try (exfalso; omega))
                    all_goals go_ret
                    all_goals exact ⟨by first | rfl | (simp [errW_none, errW_some] <;> rfl) | (simp [*, errW_none, errW_some] <;> rfl) | (simp [Ext.ne_nil_empty]; done), by repeat (first | (with_reducible first | exact HB.out | apply below_alloc | apply pw_below_drewN | apply below_drew1) | exact HB.out)⟩
                · rw [if_neg c30] at H
                  have c30b0 : (t386 == t390) = false := by simpa using c30
                  (try (have c30b1 : decide (t386 = t390) = false := by simpa using c30))
                  (try (have c30b2 : (t386 == t390) = false := by simpa using c30))
                  (try (have c30b3 : ¬ (t386 = t390) := by simpa using c30))
                  clear c30
                  exact absurd (Option.some.inj H) (by decide)
              · rw [if_neg c27] at H
                have c27b0 : (t381 == t382) = false := by simpa using c27
                (try (have c27b1 : decide (t381 = t382) = false := by simpa using c27))
                (try (have c27b2 : (t381 == t382) = false := by simpa using c27))
                (try (have c27b3 : ¬ (t381 = t382) := by simpa using c27))
                clear c27
                exact absurd (Option.some.inj H) (by decide)
            · rw [if_neg c24] at H
              have c24b0 : (t379 == t380) = false := beq_eq_false_iff_ne.mpr c24
              have c24b1 : (t379 != t380) = true := bne_iff_ne.mpr c24
              exact absurd (Option.some.inj H) (by decide)
          · rw [if_neg c21] at H
            have c21b0 : (t377 == t378) = false := by simpa using c21
            (try (have c21b1 : decide (t377 = t378) = false := by simpa using c21))
            (try (have c21b2 : (t377 == t378) = false := by simpa using c21))
            (try (have c21b3 : ¬ (t377 = t378) := by simpa using c21))
            clear c21
            exact absurd (Option.some.inj H) (by decide)
        · replace c18 := Bool.eq_false_iff.mpr c18
          subst c18
          have H1 : (some false) = some true := by rw [if_neg (show ¬ (false = true) by decide)] at H; exact H
          clear H
          have H := H1
          clear H1
          exact absurd (Option.some.inj H) (by decide)
end Go.Proofs.YtaabfmpoodjhjaaDoor.Fun
