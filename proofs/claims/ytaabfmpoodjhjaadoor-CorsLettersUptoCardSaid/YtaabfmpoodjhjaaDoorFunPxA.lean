-- Written by xprint.py, a program of this work's, by means of the kit's print. Not trusted: Lean checks it.
import Derived.Test.YtaabfmpoodjhjaaDoorFunxA
namespace Go.Proofs.YtaabfmpoodjhjaaDoor.Fun
open Go.RowKit Go.Proofs.YtaabfmpoodjhjaaDoorW.PrintWords Go.Proofs.YtaabfmpoodjhjaaDoorW.PrintLast Go.Proofs.YtaabfmpoodjhjaaDoorW.PrintMore
attribute [local go_sem] max2_int min2_int max_two min_two max_three min_three max_four min_four   -- for this text's walks alone
set_option linter.unusedVariables false
set_option linter.unusedSimpArgs false

/-! ### transeptref17_Preflight: function 22 -/
mutual
def transeptref17_Preflight.j0 : Nat → Bool → ByteArray → List ByteArray → List (S47) → Bool → Option (Bool)
  | 0, _, _, _, _, _ => none
  | k + 1, x1, x2, x3, x5, x31 => if x31 = true then (some false) else ((transeptref17_List.f k x5 (⟨#[97, 99, 99, 101, 115, 115, 45, 99, 111, 110, 116, 114, 111, 108, 45, 97, 108, 108, 111, 119, 45, 109, 101, 116, 104, 111, 100, 115]⟩ : ByteArray)).bind fun t303 => ((transeptref17_List.f k x5 (⟨#[97, 99, 99, 101, 115, 115, 45, 99, 111, 110, 116, 114, 111, 108, 45, 97, 108, 108, 111, 119, 45, 104, 101, 97, 100, 101, 114, 115]⟩ : ByteArray)).bind fun t306 => ((transeptref09_Method.f k x2).bind fun t309 => ((transeptref12_Method.f k x2).bind fun t310 => (if t310 = true then (transeptref17_Preflight.j1 k x1 x3 t306 false) else ((transeptref17_has.f k t303 t309 false).bind fun t311 => (if t311 = true then (transeptref17_Preflight.j1 k x1 x3 t306 false) else (if x1 = true then (transeptref17_Preflight.j1 k x1 x3 t306 true) else ((transeptref17_has.f k t303 (⟨#[42]⟩ : ByteArray) false).bind fun t312 => (transeptref17_Preflight.j1 k x1 x3 t306 (!t312)))))))))))
def transeptref17_Preflight.j1 : Nat → Bool → List ByteArray → List ByteArray → Bool → Option (Bool)
  | 0, _, _, _, _ => none
  | k + 1, x1, x3, x14, x55 => if x55 = true then (some false) else (transeptref17_Preflight.l0 k x1 x3 x14 0)
def transeptref17_Preflight.l0 : Nat → Bool → List ByteArray → List ByteArray → Int → Option (Bool)
  | 0, _, _, _, _ => none
  | k + 1, x1, x3, x14, x17 => if x17 < (x3.length : Int) then (if x1 = true then (if 0 ≤ x17 then ((transeptref17_has.f k x14 (rdOf ByteArray.empty x3 x17) true).bind fun t314 => (if t314 = true then (transeptref17_Preflight.l0 k x1 x3 x14 (wrap64 (x17 + 1))) else (some false))) else (none)) else ((transeptref17_has.f k x14 (⟨#[42]⟩ : ByteArray) false).bind fun t315 => (if t315 = true then (if 0 ≤ x17 then ((transeptref09_Lower.f (rdOf ByteArray.empty x3 x17)).bind fun t317 => ((transeptref17_has.f k x14 (rdOf ByteArray.empty x3 x17) true).bind fun t319 => (if t319 = true then (transeptref17_Preflight.l0 k x1 x3 x14 (wrap64 (x17 + 1))) else (if (¬ t317.toList = ([97, 117, 116, 104, 111, 114, 105, 122, 97, 116, 105, 111, 110] : List UInt8)) then (transeptref17_Preflight.l0 k x1 x3 x14 (wrap64 (x17 + 1))) else (some false))))) else (none)) else (if 0 ≤ x17 then ((transeptref17_has.f k x14 (rdOf ByteArray.empty x3 x17) true).bind fun t321 => (if t321 = true then (transeptref17_Preflight.l0 k x1 x3 x14 (wrap64 (x17 + 1))) else (some false))) else (none))))) else (some true)
end
def transeptref17_Preflight.f (k : Nat) (a0 : ByteArray) (a1 : Bool) (a2 : ByteArray) (l3 : List ByteArray) (a4 : Int) (l5 : List (S47)) : Option (Bool) := if a4 < 200 then (transeptref17_Preflight.j0 k a1 a2 l3 l5 true) else (if a4 > 299 then (transeptref17_Preflight.j0 k a1 a2 l3 l5 true) else ((transeptref17_Check.f k a0 a1 l5).bind fun t302 => (transeptref17_Preflight.j0 k a1 a2 l3 l5 (!t302))))
set_option maxHeartbeats 8000000 in
set_option maxRecDepth 100000 in
theorem transeptref17_Preflight.calls (k : Nat) (a0 : ByteArray) (a1 : Bool) (a2 : ByteArray) (A3 : Option Addr) (c3 : Nat) (l3 : List ByteArray) (a4 : Int) (A5 : Option Addr) (c5 : Nat) (l5 : List (S47)) (r : Bool) (w : World) (hr3 : Kd.C Kd.string w A3 l3.length l3) (hc3 : l3.length ≤ c3) (hr5 : Kd.C k47 w A5 l5.length l5) (hc5 : l5.length ≤ c5) (h : transeptref17_Preflight.f k a0 a1 a2 l3 a4 l5 = some r) :
    Calls Tryd.prog 22 #[.string a0, .bool a1, .string a2, .slice A3 l3.length c3, .int .i64 a4, .slice A5 l5.length c5] w fun e w' => e = .returned (.bool r) ∧ Below w.heap.size w w' := by
  have HR3 := Aside0.mk hr3
  have HC3 := Aside0.mk hc3
  clear hr3 hc3
  have HR5 := Aside0.mk hr5
  have HC5 := Aside0.mk hc5
  clear hr5 hc5
  have HB := Aside0.mk (Below.refl w.heap.size w)
  have H : (if a4 < 200 then (transeptref17_Preflight.j0 k a1 a2 l3 l5 true) else (if a4 > 299 then (transeptref17_Preflight.j0 k a1 a2 l3 l5 true) else ((transeptref17_Check.f k a0 a1 l5).bind fun t302 => (transeptref17_Preflight.j0 k a1 a2 l3 l5 (!t302))))) = some r := h
  clear h
  have HC7 := Aside0.mk H
  clear H
  go_enter Tryd.func22, Tryd.ntmps22
  go_upto_region 1 with (fail)
  go_cut [31] (fun v31 wc => ∃ (kq : Nat) (x31_6 : Bool), v31 = .bool x31_6 ∧ Aside0 (transeptref17_Preflight.j0 kq a1 a2 l3 l5 x31_6 = some r) ∧ Aside0 (kq ≤ k) ∧ Aside0 (Below w.heap.size w wc))
  case first =>
    have H := HC7.out
    clear HC7
    by_cases c8 : a4 < 200
    · rw [if_pos c8] at H
      have c8b0 : decide (a4 < 200) = true := decide_eq_true c8
      (first | rw [c8b0] | (simp only [i64_w, i32_w]; rw [c8b0]) | skip)
      have H' := Aside0.mk H
      clear H
      go_wp2
      all_goals (try (exfalso; omega))
      go_meet
      case rel => exact ⟨_, (true), (by first | rfl | (simp; done) | (simp [*]; done) | (congr 1; unfold wrap64; omega) | (simp; simp only [decide_eq_false_iff_not, decide_eq_true_eq] at *; congr 2; omega)), H', ⟨by first | omega | exact Nat.le_refl _⟩, ⟨by repeat (first | (with_reducible first | exact HB.out | apply below_alloc | apply pw_below_drewN | apply below_drew1) | exact HB.out)⟩⟩
    · rw [if_neg c8] at H
      have c8b0 : decide (a4 < 200) = false := decide_eq_false c8
      (first | rw [c8b0] | (simp only [i64_w, i32_w]; rw [c8b0]) | skip)
      by_cases c9 : a4 > 299
      · rw [if_pos c9] at H
        have c9b0 : decide (299 < a4) = true := decide_eq_true c9
        have H' := Aside0.mk H
        clear H
        go_wp2
        all_goals (try (exfalso; omega))
        go_meet
        case rel => exact ⟨_, (true), (by first | rfl | (simp; done) | (simp [*]; done) | (congr 1; unfold wrap64; omega) | (simp; simp only [decide_eq_false_iff_not, decide_eq_true_eq] at *; congr 2; omega)), H', ⟨by first | omega | exact Nat.le_refl _⟩, ⟨by repeat (first | (with_reducible first | exact HB.out | apply below_alloc | apply pw_below_drewN | apply below_drew1) | exact HB.out)⟩⟩
      · rw [if_neg c9] at H
        have c9b0 : decide (299 < a4) = false := decide_eq_false c9
        replace H := Option.bind_eq_some_iff.mp H
        obtain ⟨t302, A100, H⟩ := H
        replace H : (transeptref17_Preflight.j0 k a1 a2 l3 l5 (!t302)) = some r := H
        have A10 := Aside0.mk A100
        clear A100
        have H' := Aside0.mk H
        clear H
        go_wp2_with (first | (go_at_call 13; (with_reducible refine (transeptref17_Check.calls k a0 a1 _ _ l5 t302 _ ?side1 ?side2 A10.out).mono ?_); (case side1 => repeat (first | exact (Kd.C_below HR5.out HB.out) | (with_reducible refine Kd.C_alloc ?_ _) | (with_reducible refine Kd.C_drewN ?_ _) | (with_reducible refine Kd.C_drew ?_))); (case side2 => exact HC5.out); rintro e w11 ⟨rfl, hb⟩; have n0_ := Aside0.mk (below_step (by repeat (first | (with_reducible first | exact HB.out | apply below_alloc | apply pw_below_drewN | apply below_drew1) | exact HB.out)) hb); clear HB; have HB := n0_; clear n0_; (try clear hb); (try clear hb2); (try clear hk); (try clear hi)))
        all_goals (try (exfalso; omega))
        go_meet
        case rel => exact ⟨_, (!t302), (by first | rfl | (simp; done) | (simp [*]; done) | (congr 1; unfold wrap64; omega) | (simp; simp only [decide_eq_false_iff_not, decide_eq_true_eq] at *; congr 2; omega)), H', ⟨by first | omega | exact Nat.le_refl _⟩, ⟨by repeat (first | (with_reducible first | exact HB.out | apply below_alloc | apply pw_below_drewN | apply below_drew1) | exact HB.out)⟩⟩
  case rest =>
    clear HC7
    try clear c2
    try clear p2
    try clear c3
    try clear c5
    try clear c8
    try clear c8b0
    try clear c9
    try clear c9b0
    obtain ⟨kq, x31_6, rfl, HA, HJ6, HB⟩ := hcut
    cases kq with
    | zero => exact absurd HA.out (by simp [transeptref17_Preflight.j0])
    | succ kj6 =>
      have H := HA.out
      clear HA
      simp only [transeptref17_Preflight.j0] at H
      by_cases c12 : x31_6 = true
      · subst c12
        have H1 : (some false) = some r := by rw [if_pos rfl] at H; exact H
        clear H
        have H := H1
        clear H1
        obtain rfl := Option.some.inj H
        go_wp2
        all_goals (try (exfalso; omega))
        all_goals go_ret
        all_goals exact ⟨by first | rfl | (simp [errW_none, errW_some] <;> rfl) | (simp [*, errW_none, errW_some] <;> rfl) | (simp [Ext.ne_nil_empty]; done), by repeat (first | (with_reducible first | exact HB.out | apply below_alloc | apply pw_below_drewN | apply below_drew1) | exact HB.out)⟩
      · replace c12 := Bool.eq_false_iff.mpr c12
        subst c12
        have H1 : ((transeptref17_List.f kj6 l5 (⟨#[97, 99, 99, 101, 115, 115, 45, 99, 111, 110, 116, 114, 111, 108, 45, 97, 108, 108, 111, 119, 45, 109, 101, 116, 104, 111, 100, 115]⟩ : ByteArray)).bind fun t303 => ((transeptref17_List.f kj6 l5 (⟨#[97, 99, 99, 101, 115, 115, 45, 99, 111, 110, 116, 114, 111, 108, 45, 97, 108, 108, 111, 119, 45, 104, 101, 97, 100, 101, 114, 115]⟩ : ByteArray)).bind fun t306 => ((transeptref09_Method.f kj6 a2).bind fun t309 => ((transeptref12_Method.f kj6 a2).bind fun t310 => (if t310 = true then (transeptref17_Preflight.j1 kj6 a1 l3 t306 false) else ((transeptref17_has.f kj6 t303 t309 false).bind fun t311 => (if t311 = true then (transeptref17_Preflight.j1 kj6 a1 l3 t306 false) else (if a1 = true then (transeptref17_Preflight.j1 kj6 a1 l3 t306 true) else ((transeptref17_has.f kj6 t303 (⟨#[42]⟩ : ByteArray) false).bind fun t312 => (transeptref17_Preflight.j1 kj6 a1 l3 t306 (!t312))))))))))) = some r := by rw [if_neg (show ¬ (false = true) by decide)] at H; exact H
        clear H
        have H := H1
        clear H1
        replace H := Option.bind_eq_some_iff.mp H
        obtain ⟨t303, A130, H⟩ := H
        replace H : ((transeptref17_List.f kj6 l5 (⟨#[97, 99, 99, 101, 115, 115, 45, 99, 111, 110, 116, 114, 111, 108, 45, 97, 108, 108, 111, 119, 45, 104, 101, 97, 100, 101, 114, 115]⟩ : ByteArray)).bind fun t306 => ((transeptref09_Method.f kj6 a2).bind fun t309 => ((transeptref12_Method.f kj6 a2).bind fun t310 => (if t310 = true then (transeptref17_Preflight.j1 kj6 a1 l3 t306 false) else ((transeptref17_has.f kj6 t303 t309 false).bind fun t311 => (if t311 = true then (transeptref17_Preflight.j1 kj6 a1 l3 t306 false) else (if a1 = true then (transeptref17_Preflight.j1 kj6 a1 l3 t306 true) else ((transeptref17_has.f kj6 t303 (⟨#[42]⟩ : ByteArray) false).bind fun t312 => (transeptref17_Preflight.j1 kj6 a1 l3 t306 (!t312)))))))))) = some r := H
        have A13 := Aside0.mk A130
        clear A130
        replace H := Option.bind_eq_some_iff.mp H
        obtain ⟨t306, A140, H⟩ := H
        replace H : ((transeptref09_Method.f kj6 a2).bind fun t309 => ((transeptref12_Method.f kj6 a2).bind fun t310 => (if t310 = true then (transeptref17_Preflight.j1 kj6 a1 l3 t306 false) else ((transeptref17_has.f kj6 t303 t309 false).bind fun t311 => (if t311 = true then (transeptref17_Preflight.j1 kj6 a1 l3 t306 false) else (if a1 = true then (transeptref17_Preflight.j1 kj6 a1 l3 t306 true) else ((transeptref17_has.f kj6 t303 (⟨#[42]⟩ : ByteArray) false).bind fun t312 => (transeptref17_Preflight.j1 kj6 a1 l3 t306 (!t312))))))))) = some r := H
        have A14 := Aside0.mk A140
        clear A140
        replace H := Option.bind_eq_some_iff.mp H
        obtain ⟨t309, A150, H⟩ := H
        replace H : ((transeptref12_Method.f kj6 a2).bind fun t310 => (if t310 = true then (transeptref17_Preflight.j1 kj6 a1 l3 t306 false) else ((transeptref17_has.f kj6 t303 t309 false).bind fun t311 => (if t311 = true then (transeptref17_Preflight.j1 kj6 a1 l3 t306 false) else (if a1 = true then (transeptref17_Preflight.j1 kj6 a1 l3 t306 true) else ((transeptref17_has.f kj6 t303 (⟨#[42]⟩ : ByteArray) false).bind fun t312 => (transeptref17_Preflight.j1 kj6 a1 l3 t306 (!t312)))))))) = some r := H
        have A15 := Aside0.mk A150
        clear A150
        replace H := Option.bind_eq_some_iff.mp H
        obtain ⟨t310, A160, H⟩ := H
        replace H : (if t310 = true then (transeptref17_Preflight.j1 kj6 a1 l3 t306 false) else ((transeptref17_has.f kj6 t303 t309 false).bind fun t311 => (if t311 = true then (transeptref17_Preflight.j1 kj6 a1 l3 t306 false) else (if a1 = true then (transeptref17_Preflight.j1 kj6 a1 l3 t306 true) else ((transeptref17_has.f kj6 t303 (⟨#[42]⟩ : ByteArray) false).bind fun t312 => (transeptref17_Preflight.j1 kj6 a1 l3 t306 (!t312))))))) = some r := H
        have A16 := Aside0.mk A160
        clear A160
        have HC17 := Aside0.mk H
        clear H
        go_upto_region 7 with (first | ((with_reducible refine gate_callee (f := 18) rfl ?_); refine goesL_ (some 33) rfl rfl Tryd.func18 (by kernel_rfl) rfl #[.slice A5 l5.length c5, .string (⟨#[97, 99, 99, 101, 115, 115, 45, 99, 111, 110, 116, 114, 111, 108, 45, 97, 108, 108, 111, 119, 45, 109, 101, 116, 104, 111, 100, 115]⟩ : ByteArray)] rfl (by (try simp only [List.map_toArray, List.map_cons, List.map_nil]); first | done | rfl | (simp only [List.length_drop, List.length_take]; rfl)) ?_; (with_reducible refine (transeptref17_List.calls kj6 _ _ l5 (⟨#[97, 99, 99, 101, 115, 115, 45, 99, 111, 110, 116, 114, 111, 108, 45, 97, 108, 108, 111, 119, 45, 109, 101, 116, 104, 111, 100, 115]⟩ : ByteArray) t303 _ ?side1 ?side2 A13.out).mono ?_); (case side1 => repeat (first | exact (Kd.C_below HR5.out HB.out) | (with_reducible refine Kd.C_alloc ?_ _) | (with_reducible refine Kd.C_drewN ?_ _) | (with_reducible refine Kd.C_drew ?_))); (case side2 => exact HC5.out); rintro e w18 ⟨v304, rfl, ho0, hb⟩; refine ⟨_, rfl, ?_⟩; have n0_ := Aside0.mk (Kd.R_lower ho0 (below_size (by repeat (first | (with_reducible first | exact HB.out | apply below_alloc | apply pw_below_drewN | apply below_drew1) | exact HB.out)))); have n1_ := Aside0.mk (below_step (by repeat (first | (with_reducible first | exact HB.out | apply below_alloc | apply pw_below_drewN | apply below_drew1) | exact HB.out)) hb); clear HB; have HO305 := n0_; have HB := n1_; clear n0_ n1_; (try clear hb); (try clear hb2); (try clear hk); (try clear hi); (try clear ho0)) | ((with_reducible refine gate_callee (f := 18) rfl ?_); refine goesL_ (some 35) rfl rfl Tryd.func18 (by kernel_rfl) rfl #[.slice A5 l5.length c5, .string (⟨#[97, 99, 99, 101, 115, 115, 45, 99, 111, 110, 116, 114, 111, 108, 45, 97, 108, 108, 111, 119, 45, 104, 101, 97, 100, 101, 114, 115]⟩ : ByteArray)] rfl (by (try simp only [List.map_toArray, List.map_cons, List.map_nil]); first | done | rfl | (simp only [List.length_drop, List.length_take]; rfl)) ?_; (with_reducible refine (transeptref17_List.calls kj6 _ _ l5 (⟨#[97, 99, 99, 101, 115, 115, 45, 99, 111, 110, 116, 114, 111, 108, 45, 97, 108, 108, 111, 119, 45, 104, 101, 97, 100, 101, 114, 115]⟩ : ByteArray) t306 _ ?side1 ?side2 A14.out).mono ?_); (case side1 => repeat (first | exact (Kd.C_below HR5.out HB.out) | (with_reducible refine Kd.C_alloc ?_ _) | (with_reducible refine Kd.C_drewN ?_ _) | (with_reducible refine Kd.C_drew ?_))); (case side2 => exact HC5.out); rintro e w19 ⟨v307, rfl, ho0, hb⟩; refine ⟨_, rfl, ?_⟩; have n0_ := Aside0.mk (Kd.R_elder' (by (with_reducible repeat (first | apply Kd.R_alloc | apply Kd.R_drewN | apply Kd.R_drew)); exact HO305.out) (Kd.R_base ho0) hb); have n1_ := Aside0.mk (Kd.R_lower (Kd.R_new' ho0 (Kd.R_lt (by (with_reducible repeat (first | apply Kd.R_alloc | apply Kd.R_drewN | apply Kd.R_drew)); exact HO305.out))) (below_size (by repeat (first | (with_reducible first | exact HB.out | apply below_alloc | apply pw_below_drewN | apply below_drew1) | exact HB.out)))); have n2_ := Aside0.mk (below_step (by repeat (first | (with_reducible first | exact HB.out | apply below_alloc | apply pw_below_drewN | apply below_drew1) | exact HB.out)) hb); clear HO305; clear HB; have HO305 := n0_; have HO308 := n1_; have HB := n2_; clear n0_ n1_ n2_; (try clear hb); (try clear hb2); (try clear hk); (try clear hi); (try clear ho0)) | ((with_reducible refine gate_callee (f := 50) rfl ?_); refine goesL_ (some 37) rfl rfl Tryd.func50 (by kernel_rfl) rfl #[.string a2] rfl (by (try simp only [List.map_toArray, List.map_cons, List.map_nil]); first | done | rfl | (simp only [List.length_drop, List.length_take]; rfl)) ?_; (with_reducible refine (transeptref09_Method.calls kj6 a2 t309 _ A15.out).mono ?_); rintro e w20 ⟨rfl, hb⟩; refine ⟨_, rfl, ?_⟩; have n0_ := Aside0.mk (Kd.R_below (by (with_reducible repeat (first | apply Kd.R_alloc | apply Kd.R_drewN | apply Kd.R_drew)); exact HO305.out) hb); have n1_ := Aside0.mk (Kd.R_below (by (with_reducible repeat (first | apply Kd.R_alloc | apply Kd.R_drewN | apply Kd.R_drew)); exact HO308.out) hb); have n2_ := Aside0.mk (below_step (by repeat (first | (with_reducible first | exact HB.out | apply below_alloc | apply pw_below_drewN | apply below_drew1) | exact HB.out)) hb); clear HO305; clear HO308; clear HB; have HO305 := n0_; have HO308 := n1_; have HB := n2_; clear n0_ n1_ n2_; (try clear hb); (try clear hb2); (try clear hk); (try clear hi)) | ((with_reducible refine gate_callee (f := 51) rfl ?_); refine goesL_ (some 39) rfl rfl Tryd.func51 (by kernel_rfl) rfl #[.string a2] rfl (by (try simp only [List.map_toArray, List.map_cons, List.map_nil]); first | done | rfl | (simp only [List.length_drop, List.length_take]; rfl)) ?_; (with_reducible refine (transeptref12_Method.calls kj6 a2 t310 _ A16.out).mono ?_); rintro e w21 ⟨rfl, hb⟩; refine ⟨_, rfl, ?_⟩; have n0_ := Aside0.mk (Kd.R_below (by (with_reducible repeat (first | apply Kd.R_alloc | apply Kd.R_drewN | apply Kd.R_drew)); exact HO305.out) hb); have n1_ := Aside0.mk (Kd.R_below (by (with_reducible repeat (first | apply Kd.R_alloc | apply Kd.R_drewN | apply Kd.R_drew)); exact HO308.out) hb); have n2_ := Aside0.mk (below_step (by repeat (first | (with_reducible first | exact HB.out | apply below_alloc | apply pw_below_drewN | apply below_drew1) | exact HB.out)) hb); clear HO305; clear HO308; clear HB; have HO305 := n0_; have HO308 := n1_; have HB := n2_; clear n0_ n1_ n2_; (try clear hb); (try clear hb2); (try clear hk); (try clear hi)))
        (try simp only [Act.put, List.setIfInBounds_toArray, List.set_cons_zero, List.set_cons_succ])
        go_cut [55] (fun v55 wc => ∃ (kq : Nat) (x55_16 : Bool), v55 = .bool x55_16 ∧ Aside0 (transeptref17_Preflight.j1 kq a1 l3 t306 x55_16 = some r) ∧ Aside0 (kq ≤ kj6) ∧ Aside0 (Kd.R Kd.string 9 wc w.heap.size (fun _ => True) v307 t306) ∧ Aside0 (Below w.heap.size w wc))
        case first =>
          have H := HC17.out
          clear HC17
          by_cases c22 : t310 = true
          · subst c22
            have H1 : (transeptref17_Preflight.j1 kj6 a1 l3 t306 false) = some r := by rw [if_pos rfl] at H; exact H
            clear H
            have H := H1
            clear H1
            have H' := Aside0.mk H
            clear H
            go_wp2
            all_goals (try (exfalso; omega))
            go_meet
            case rel => exact ⟨_, (false), (by first | rfl | (simp; done) | (simp [*]; done) | (congr 1; unfold wrap64; omega) | (simp; simp only [decide_eq_false_iff_not, decide_eq_true_eq] at *; congr 2; omega)), H', ⟨by have := HJ6.out; first | omega | exact Nat.le_refl _⟩, ⟨by (with_reducible repeat (first | apply Kd.R_alloc | apply Kd.R_drewN | apply Kd.R_drew)); exact Kd.R_mono HO308.out (fun _ hk => trivial)⟩, ⟨by repeat (first | (with_reducible first | exact HB.out | apply below_alloc | apply pw_below_drewN | apply below_drew1) | exact HB.out)⟩⟩
          · replace c22 := Bool.eq_false_iff.mpr c22
            subst c22
            have H1 : ((transeptref17_has.f kj6 t303 t309 false).bind fun t311 => (if t311 = true then (transeptref17_Preflight.j1 kj6 a1 l3 t306 false) else (if a1 = true then (transeptref17_Preflight.j1 kj6 a1 l3 t306 true) else ((transeptref17_has.f kj6 t303 (⟨#[42]⟩ : ByteArray) false).bind fun t312 => (transeptref17_Preflight.j1 kj6 a1 l3 t306 (!t312)))))) = some r := by rw [if_neg (show ¬ (false = true) by decide)] at H; exact H
            clear H
            have H := H1
            clear H1
            replace H := Option.bind_eq_some_iff.mp H
            obtain ⟨t311, A230, H⟩ := H
            replace H : (if t311 = true then (transeptref17_Preflight.j1 kj6 a1 l3 t306 false) else (if a1 = true then (transeptref17_Preflight.j1 kj6 a1 l3 t306 true) else ((transeptref17_has.f kj6 t303 (⟨#[42]⟩ : ByteArray) false).bind fun t312 => (transeptref17_Preflight.j1 kj6 a1 l3 t306 (!t312))))) = some r := H
            have A23 := Aside0.mk A230
            clear A230
            by_cases c24 : t311 = true
            · subst c24
              have H1 : (transeptref17_Preflight.j1 kj6 a1 l3 t306 false) = some r := by rw [if_pos rfl] at H; exact H
              clear H
              have H := H1
              clear H1
              have H' := Aside0.mk H
              clear H
              obtain ⟨Ao25, co25, eo25⟩ := Kd.R_slice HO305.out
              subst eo25
              go_wp2_with (first | (go_at_call 44; (with_reducible refine (transeptref17_has.calls kj6 _ _ t303 t309 false true _ ?side1 ?side2 A23.out).mono ?_); (case side1 => repeat (first | exact (Kd.R_reads' HO305.out).2.2 | (with_reducible refine Kd.C_alloc ?_ _) | (with_reducible refine Kd.C_drewN ?_ _) | (with_reducible refine Kd.C_drew ?_))); (case side2 => exact (Kd.R_reads' HO305.out).2.1); rintro e w26 ⟨rfl, hb⟩; have n0_ := Aside0.mk (Kd.R_below (by (with_reducible repeat (first | apply Kd.R_alloc | apply Kd.R_drewN | apply Kd.R_drew)); exact HO305.out) hb); have n1_ := Aside0.mk (Kd.R_below (by (with_reducible repeat (first | apply Kd.R_alloc | apply Kd.R_drewN | apply Kd.R_drew)); exact HO308.out) hb); have n2_ := Aside0.mk (below_step (by repeat (first | (with_reducible first | exact HB.out | apply below_alloc | apply pw_below_drewN | apply below_drew1) | exact HB.out)) hb); clear HO305; clear HO308; clear HB; have HO305 := n0_; have HO308 := n1_; have HB := n2_; clear n0_ n1_ n2_; (try clear hb); (try clear hb2); (try clear hk); (try clear hi)))
              all_goals (try (exfalso; omega))
              go_meet
              case rel => exact ⟨_, (false), (by first | rfl | (simp; done) | (simp [*]; done) | (congr 1; unfold wrap64; omega) | (simp; simp only [decide_eq_false_iff_not, decide_eq_true_eq] at *; congr 2; omega)), H', ⟨by have := HJ6.out; first | omega | exact Nat.le_refl _⟩, ⟨by (with_reducible repeat (first | apply Kd.R_alloc | apply Kd.R_drewN | apply Kd.R_drew)); exact Kd.R_mono HO308.out (fun _ hk => trivial)⟩, ⟨by repeat (first | (with_reducible first | exact HB.out | apply below_alloc | apply pw_below_drewN | apply below_drew1) | exact HB.out)⟩⟩
            · replace c24 := Bool.eq_false_iff.mpr c24
              subst c24
              have H1 : (if a1 = true then (transeptref17_Preflight.j1 kj6 a1 l3 t306 true) else ((transeptref17_has.f kj6 t303 (⟨#[42]⟩ : ByteArray) false).bind fun t312 => (transeptref17_Preflight.j1 kj6 a1 l3 t306 (!t312)))) = some r := by rw [if_neg (show ¬ (false = true) by decide)] at H; exact H
              clear H
              have H := H1
              clear H1
              by_cases c27 : a1 = true
              · subst c27
                have H1 : (transeptref17_Preflight.j1 kj6 true l3 t306 true) = some r := by rw [if_pos rfl] at H; exact H
                clear H
                have H := H1
                clear H1
                have H' := Aside0.mk H
                clear H
                obtain ⟨Ao28, co28, eo28⟩ := Kd.R_slice HO305.out
                subst eo28
                go_wp2_with (first | (go_at_call 44; (with_reducible refine (transeptref17_has.calls kj6 _ _ t303 t309 false false _ ?side1 ?side2 A23.out).mono ?_); (case side1 => repeat (first | exact (Kd.R_reads' HO305.out).2.2 | (with_reducible refine Kd.C_alloc ?_ _) | (with_reducible refine Kd.C_drewN ?_ _) | (with_reducible refine Kd.C_drew ?_))); (case side2 => exact (Kd.R_reads' HO305.out).2.1); rintro e w29 ⟨rfl, hb⟩; have n0_ := Aside0.mk (Kd.R_below (by (with_reducible repeat (first | apply Kd.R_alloc | apply Kd.R_drewN | apply Kd.R_drew)); exact HO305.out) hb); have n1_ := Aside0.mk (Kd.R_below (by (with_reducible repeat (first | apply Kd.R_alloc | apply Kd.R_drewN | apply Kd.R_drew)); exact HO308.out) hb); have n2_ := Aside0.mk (below_step (by repeat (first | (with_reducible first | exact HB.out | apply below_alloc | apply pw_below_drewN | apply below_drew1) | exact HB.out)) hb); clear HO305; clear HO308; clear HB; have HO305 := n0_; have HO308 := n1_; have HB := n2_; clear n0_ n1_ n2_; (try clear hb); (try clear hb2); (try clear hk); (try clear hi)))
                all_goals (try (exfalso; omega))
                go_meet
                case rel => exact ⟨_, (true), (by first | rfl | (simp; done) | (simp [*]; done) | (congr 1; unfold wrap64; omega) | (simp; simp only [decide_eq_false_iff_not, decide_eq_true_eq] at *; congr 2; omega)), H', ⟨by have := HJ6.out; first | omega | exact Nat.le_refl _⟩, ⟨by (with_reducible repeat (first | apply Kd.R_alloc | apply Kd.R_drewN | apply Kd.R_drew)); exact Kd.R_mono HO308.out (fun _ hk => trivial)⟩, ⟨by repeat (first | (with_reducible first | exact HB.out | apply below_alloc | apply pw_below_drewN | apply below_drew1) | exact HB.out)⟩⟩
              · replace c27 := Bool.eq_false_iff.mpr c27
                subst c27
                have H1 : ((transeptref17_has.f kj6 t303 (⟨#[42]⟩ : ByteArray) false).bind fun t312 => (transeptref17_Preflight.j1 kj6 false l3 t306 (!t312))) = some r := by rw [if_neg (show ¬ (false = true) by decide)] at H; exact H
                clear H
                have H := H1
                clear H1
                replace H := Option.bind_eq_some_iff.mp H
                obtain ⟨t312, A300, H⟩ := H
                replace H : (transeptref17_Preflight.j1 kj6 false l3 t306 (!t312)) = some r := H
                have A30 := Aside0.mk A300
                clear A300
                have H' := Aside0.mk H
                clear H
                obtain ⟨Ao31, co31, eo31⟩ := Kd.R_slice HO305.out
                subst eo31
                go_wp2_with (first | (go_at_call 44; (with_reducible refine (transeptref17_has.calls kj6 _ _ t303 t309 false false _ ?side1 ?side2 A23.out).mono ?_); (case side1 => repeat (first | exact (Kd.R_reads' HO305.out).2.2 | (with_reducible refine Kd.C_alloc ?_ _) | (with_reducible refine Kd.C_drewN ?_ _) | (with_reducible refine Kd.C_drew ?_))); (case side2 => exact (Kd.R_reads' HO305.out).2.1); rintro e w32 ⟨rfl, hb⟩; have n0_ := Aside0.mk (Kd.R_below (by (with_reducible repeat (first | apply Kd.R_alloc | apply Kd.R_drewN | apply Kd.R_drew)); exact HO305.out) hb); have n1_ := Aside0.mk (Kd.R_below (by (with_reducible repeat (first | apply Kd.R_alloc | apply Kd.R_drewN | apply Kd.R_drew)); exact HO308.out) hb); have n2_ := Aside0.mk (below_step (by repeat (first | (with_reducible first | exact HB.out | apply below_alloc | apply pw_below_drewN | apply below_drew1) | exact HB.out)) hb); clear HO305; clear HO308; clear HB; have HO305 := n0_; have HO308 := n1_; have HB := n2_; clear n0_ n1_ n2_; (try clear hb); (try clear hb2); (try clear hk); (try clear hi)) | (go_at_call 44; (with_reducible refine (transeptref17_has.calls kj6 _ _ t303 (⟨#[42]⟩ : ByteArray) false t312 _ ?side1 ?side2 A30.out).mono ?_); (case side1 => repeat (first | exact (Kd.R_reads' HO305.out).2.2 | (with_reducible refine Kd.C_alloc ?_ _) | (with_reducible refine Kd.C_drewN ?_ _) | (with_reducible refine Kd.C_drew ?_))); (case side2 => exact (Kd.R_reads' HO305.out).2.1); rintro e w33 ⟨rfl, hb⟩; have n0_ := Aside0.mk (Kd.R_below (by (with_reducible repeat (first | apply Kd.R_alloc | apply Kd.R_drewN | apply Kd.R_drew)); exact HO305.out) hb); have n1_ := Aside0.mk (Kd.R_below (by (with_reducible repeat (first | apply Kd.R_alloc | apply Kd.R_drewN | apply Kd.R_drew)); exact HO308.out) hb); have n2_ := Aside0.mk (below_step (by repeat (first | (with_reducible first | exact HB.out | apply below_alloc | apply pw_below_drewN | apply below_drew1) | exact HB.out)) hb); clear HO305; clear HO308; clear HB; have HO305 := n0_; have HO308 := n1_; have HB := n2_; clear n0_ n1_ n2_; (try clear hb); (try clear hb2); (try clear hk); (try clear hi)))
                all_goals (try (exfalso; omega))
                go_meet
                case rel => exact ⟨_, (!t312), (by first | rfl | (simp; done) | (simp [*]; done) | (congr 1; unfold wrap64; omega) | (simp; simp only [decide_eq_false_iff_not, decide_eq_true_eq] at *; congr 2; omega)), H', ⟨by have := HJ6.out; first | omega | exact Nat.le_refl _⟩, ⟨by (with_reducible repeat (first | apply Kd.R_alloc | apply Kd.R_drewN | apply Kd.R_drew)); exact Kd.R_mono HO308.out (fun _ hk => trivial)⟩, ⟨by repeat (first | (with_reducible first | exact HB.out | apply below_alloc | apply pw_below_drewN | apply below_drew1) | exact HB.out)⟩⟩
        case rest =>
          clear HC17
          try clear c1
          try clear c2
          try clear p2
          try clear c3
          try clear c5
          try clear c8
          try clear c8b0
          try clear c9
          try clear c9b0
          try clear c12
          try clear c18
          try clear c22
          try clear c24
          try clear c27
          try clear p2
          obtain ⟨kq, x55_16, rfl, HA, HJ16, HO_14, HB⟩ := hcut
          cases kq with
          | zero => exact absurd HA.out (by simp [transeptref17_Preflight.j1])
          | succ kj16 =>
            have H := HA.out
            clear HA
            simp only [transeptref17_Preflight.j1] at H
            by_cases c34 : x55_16 = true
            · subst c34
              have H1 : (some false) = some r := by rw [if_pos rfl] at H; exact H
              clear H
              have H := H1
              clear H1
              obtain rfl := Option.some.inj H
              go_wp2
              all_goals (try (exfalso; omega))
              all_goals go_ret
              all_goals exact ⟨by first | rfl | (simp [errW_none, errW_some] <;> rfl) | (simp [*, errW_none, errW_some] <;> rfl) | (simp [Ext.ne_nil_empty]; done), by repeat (first | (with_reducible first | exact HB.out | apply below_alloc | apply pw_below_drewN | apply below_drew1) | exact HB.out)⟩
            · replace c34 := Bool.eq_false_iff.mpr c34
              subst c34
              have H1 : (transeptref17_Preflight.l0 kj16 a1 l3 t306 0) = some r := by rw [if_neg (show ¬ (false = true) by decide)] at H; exact H
              clear H
              have H := H1
              clear H1
              have H' := Aside0.mk H
              clear H
              go_wp2
              all_goals (try (exfalso; omega))
              go_loopg [17] kj16 (fun kq v17 w' => ∃ (x17_3 : Int), v17 = .int .i64 x17_3 ∧ Aside0 (transeptref17_Preflight.l0 kq a1 l3 t306 x17_3 = some r) ∧ Aside0 (kq ≤ kj16) ∧ Aside0 (Kd.R Kd.string 9 w' w.heap.size (fun _ => True) v307 t306) ∧ Aside0 (Below w.heap.size w w'))
              case atStart => exact ⟨(0), (by first | rfl | (simp; done) | (simp [*]; done) | (congr 1; unfold wrap64; omega) | (simp; simp only [decide_eq_false_iff_not, decide_eq_true_eq] at *; congr 2; omega)), H', ⟨Nat.le_refl _⟩, ⟨by (with_reducible repeat (first | apply Kd.R_alloc | apply Kd.R_drewN | apply Kd.R_drew)); exact HO_14.out⟩, ⟨by repeat (first | (with_reducible first | exact HB.out | apply below_alloc | apply pw_below_drewN | apply below_drew1) | exact HB.out)⟩⟩
              case round =>
                clear H'
                try clear c1
                try clear c2
                try clear p2
                try clear c3
                try clear c5
                try clear c8
                try clear c8b0
                try clear c9
                try clear c9b0
                try clear c12
                try clear c18
                try clear c22
                try clear c24
                try clear c27
                try clear c34
                try clear p2
                obtain ⟨x17_3, rfl, HA, HK3, HO_14, HB⟩ := hrel
                cases gk with
                | zero => exact absurd HA.out (by simp [transeptref17_Preflight.l0])
                | succ k3 =>
                  have H := HA.out
                  clear HA
                  simp only [transeptref17_Preflight.l0] at H
                  by_cases c35 : x17_3 < (l3.length : Int)
                  · rw [if_pos c35] at H
                    have c35b0 : decide (x17_3 < (l3.length : Int)) = true := decide_eq_true c35
                    by_cases c36 : a1 = true
                    · subst c36
                      have H1 : (if 0 ≤ x17_3 then ((transeptref17_has.f k3 t306 (rdOf ByteArray.empty l3 x17_3) true).bind fun t314 => (if t314 = true then (transeptref17_Preflight.l0 k3 true l3 t306 (wrap64 (x17_3 + 1))) else (some false))) else (none)) = some r := by rw [if_pos rfl] at H; exact H
                      clear H
                      have H := H1
                      clear H1
                      by_cases c37 : 0 ≤ x17_3
                      · rw [if_pos c37] at H
                        have c37b0 : decide (0 ≤ x17_3) = true := decide_eq_true c37
                        replace H := Option.bind_eq_some_iff.mp H
                        obtain ⟨t314, A380, H⟩ := H
                        replace H : (if t314 = true then (transeptref17_Preflight.l0 k3 true l3 t306 (wrap64 (x17_3 + 1))) else (some false)) = some r := H
                        have A38 := Aside0.mk A380
                        clear A380
                        by_cases c39 : t314 = true
                        · subst c39
                          have H1 : (transeptref17_Preflight.l0 k3 true l3 t306 (wrap64 (x17_3 + 1))) = some r := by rw [if_pos rfl] at H; exact H
                          clear H
                          have H := H1
                          clear H1
                          have H' := Aside0.mk H
                          clear H
                          have p313 : 0 ≤ (x17_3 : Int) := of_decide_eq_true (by first | (with_reducible assumption) | assumption)
                          have q313 : x17_3 < (l3.length : Int) := of_decide_eq_true (by first | (with_reducible assumption) | assumption)
                          obtain ⟨ad313, e313, hx313_0⟩ := Kd.at_string HR3.out x17_3 p313 q313
                          cases e313
                          replace hx313_0 := (HB.out.cell (World.block_lt_of_cell? w _ hx313_0)).trans hx313_0
                          replace p313 := eq_true p313
                          replace q313 := eq_true q313
                          obtain ⟨Ao40, co40, eo40⟩ := Kd.R_slice HO_14.out
                          subst eo40
                          go_wp2_with (first | ((with_reducible refine gate_callee (f := 44) rfl ?_); refine goesL_ (some 81) rfl rfl Tryd.func44 (by kernel_rfl) rfl #[.slice Ao40 t306.length co40, .string (rdOf ByteArray.empty l3 x17_3), .bool true] rfl (by (try simp only [List.map_toArray, List.map_cons, List.map_nil]); first | done | rfl | (simp only [List.length_drop, List.length_take]; rfl)) ?_; (with_reducible refine (transeptref17_has.calls k3 _ _ t306 (rdOf ByteArray.empty l3 x17_3) true true _ ?side1 ?side2 A38.out).mono ?_); (case side1 => repeat (first | exact (Kd.R_reads' HO_14.out).2.2 | (with_reducible refine Kd.C_alloc ?_ _) | (with_reducible refine Kd.C_drewN ?_ _) | (with_reducible refine Kd.C_drew ?_))); (case side2 => exact (Kd.R_reads' HO_14.out).2.1); rintro e w41 ⟨rfl, hb⟩; refine ⟨_, rfl, ?_⟩; have n0_ := Aside0.mk (Kd.R_below (by (with_reducible repeat (first | apply Kd.R_alloc | apply Kd.R_drewN | apply Kd.R_drew)); exact HO_14.out) hb); have n1_ := Aside0.mk (below_step (by repeat (first | (with_reducible first | exact HB.out | apply below_alloc | apply pw_below_drewN | apply below_drew1) | exact HB.out)) hb); clear HO_14; clear HB; have HO_14 := n0_; have HB := n1_; clear n0_ n1_; (try clear hb); (try clear hb2); (try clear hk); (try clear hi)))
                          all_goals (try (exfalso; omega))
                          go_roundg k3
                          case measure => have := HJ6.out; have := HJ16.out; have := HK3.out; omega
                          case rel => exact ⟨(wrap64 (x17_3 + 1)), (by first | rfl | (simp; done) | (simp [*]; done) | (congr 1; unfold wrap64; omega) | (simp; simp only [decide_eq_false_iff_not, decide_eq_true_eq] at *; congr 2; omega)), H', ⟨by have := HJ6.out; have := HJ16.out; have := HK3.out; omega⟩, ⟨by (with_reducible repeat (first | apply Kd.R_alloc | apply Kd.R_drewN | apply Kd.R_drew)); exact HO_14.out⟩, ⟨by repeat (first | (with_reducible first | exact HB.out | apply below_alloc | apply pw_below_drewN | apply below_drew1) | exact HB.out)⟩⟩
                        · replace c39 := Bool.eq_false_iff.mpr c39
                          subst c39
                          have H1 : (some false) = some r := by rw [if_neg (show ¬ (false = true) by decide)] at H; exact H
                          clear H
                          have H := H1
                          clear H1
                          obtain rfl := Option.some.inj H
                          have p313 : 0 ≤ (x17_3 : Int) := of_decide_eq_true (by first | (with_reducible assumption) | assumption)
                          have q313 : x17_3 < (l3.length : Int) := of_decide_eq_true (by first | (with_reducible assumption) | assumption)
                          obtain ⟨ad313, e313, hx313_0⟩ := Kd.at_string HR3.out x17_3 p313 q313
                          cases e313
                          replace hx313_0 := (HB.out.cell (World.block_lt_of_cell? w _ hx313_0)).trans hx313_0
                          replace p313 := eq_true p313
                          replace q313 := eq_true q313
                          obtain ⟨Ao42, co42, eo42⟩ := Kd.R_slice HO_14.out
                          subst eo42
                          go_wp2_with (first | ((with_reducible refine gate_callee (f := 44) rfl ?_); refine goesL_ (some 81) rfl rfl Tryd.func44 (by kernel_rfl) rfl #[.slice Ao42 t306.length co42, .string (rdOf ByteArray.empty l3 x17_3), .bool true] rfl (by (try simp only [List.map_toArray, List.map_cons, List.map_nil]); first | done | rfl | (simp only [List.length_drop, List.length_take]; rfl)) ?_; (with_reducible refine (transeptref17_has.calls k3 _ _ t306 (rdOf ByteArray.empty l3 x17_3) true false _ ?side1 ?side2 A38.out).mono ?_); (case side1 => repeat (first | exact (Kd.R_reads' HO_14.out).2.2 | (with_reducible refine Kd.C_alloc ?_ _) | (with_reducible refine Kd.C_drewN ?_ _) | (with_reducible refine Kd.C_drew ?_))); (case side2 => exact (Kd.R_reads' HO_14.out).2.1); rintro e w43 ⟨rfl, hb⟩; refine ⟨_, rfl, ?_⟩; have n0_ := Aside0.mk (Kd.R_below (by (with_reducible repeat (first | apply Kd.R_alloc | apply Kd.R_drewN | apply Kd.R_drew)); exact HO_14.out) hb); have n1_ := Aside0.mk (below_step (by repeat (first | (with_reducible first | exact HB.out | apply below_alloc | apply pw_below_drewN | apply below_drew1) | exact HB.out)) hb); clear HO_14; clear HB; have HO_14 := n0_; have HB := n1_; clear n0_ n1_; (try clear hb); (try clear hb2); (try clear hk); (try clear hi)))
                          all_goals (try (exfalso; omega))
                          all_goals go_ret
                          all_goals exact ⟨by first | rfl | (simp [errW_none, errW_some] <;> rfl) | (simp [*, errW_none, errW_some] <;> rfl) | (simp [Ext.ne_nil_empty]; done), by repeat (first | (with_reducible first | exact HB.out | apply below_alloc | apply pw_below_drewN | apply below_drew1) | exact HB.out)⟩
                      · rw [if_neg c37] at H
                        exact absurd H (by simp)
                    · replace c36 := Bool.eq_false_iff.mpr c36
                      subst c36
                      have H1 : ((transeptref17_has.f k3 t306 (⟨#[42]⟩ : ByteArray) false).bind fun t315 => (if t315 = true then (if 0 ≤ x17_3 then ((transeptref09_Lower.f (rdOf ByteArray.empty l3 x17_3)).bind fun t317 => ((transeptref17_has.f k3 t306 (rdOf ByteArray.empty l3 x17_3) true).bind fun t319 => (if t319 = true then (transeptref17_Preflight.l0 k3 false l3 t306 (wrap64 (x17_3 + 1))) else (if (¬ t317.toList = ([97, 117, 116, 104, 111, 114, 105, 122, 97, 116, 105, 111, 110] : List UInt8)) then (transeptref17_Preflight.l0 k3 false l3 t306 (wrap64 (x17_3 + 1))) else (some false))))) else (none)) else (if 0 ≤ x17_3 then ((transeptref17_has.f k3 t306 (rdOf ByteArray.empty l3 x17_3) true).bind fun t321 => (if t321 = true then (transeptref17_Preflight.l0 k3 false l3 t306 (wrap64 (x17_3 + 1))) else (some false))) else (none)))) = some r := by rw [if_neg (show ¬ (false = true) by decide)] at H; exact H
                      clear H
                      have H := H1
                      clear H1
                      replace H := Option.bind_eq_some_iff.mp H
                      obtain ⟨t315, A440, H⟩ := H
                      replace H : (if t315 = true then (if 0 ≤ x17_3 then ((transeptref09_Lower.f (rdOf ByteArray.empty l3 x17_3)).bind fun t317 => ((transeptref17_has.f k3 t306 (rdOf ByteArray.empty l3 x17_3) true).bind fun t319 => (if t319 = true then (transeptref17_Preflight.l0 k3 false l3 t306 (wrap64 (x17_3 + 1))) else (if (¬ t317.toList = ([97, 117, 116, 104, 111, 114, 105, 122, 97, 116, 105, 111, 110] : List UInt8)) then (transeptref17_Preflight.l0 k3 false l3 t306 (wrap64 (x17_3 + 1))) else (some false))))) else (none)) else (if 0 ≤ x17_3 then ((transeptref17_has.f k3 t306 (rdOf ByteArray.empty l3 x17_3) true).bind fun t321 => (if t321 = true then (transeptref17_Preflight.l0 k3 false l3 t306 (wrap64 (x17_3 + 1))) else (some false))) else (none))) = some r := H
                      have A44 := Aside0.mk A440
                      clear A440
                      by_cases c45 : t315 = true
                      · subst c45
                        have H1 : (if 0 ≤ x17_3 then ((transeptref09_Lower.f (rdOf ByteArray.empty l3 x17_3)).bind fun t317 => ((transeptref17_has.f k3 t306 (rdOf ByteArray.empty l3 x17_3) true).bind fun t319 => (if t319 = true then (transeptref17_Preflight.l0 k3 false l3 t306 (wrap64 (x17_3 + 1))) else (if (¬ t317.toList = ([97, 117, 116, 104, 111, 114, 105, 122, 97, 116, 105, 111, 110] : List UInt8)) then (transeptref17_Preflight.l0 k3 false l3 t306 (wrap64 (x17_3 + 1))) else (some false))))) else (none)) = some r := by rw [if_pos rfl] at H; exact H
                        clear H
                        have H := H1
                        clear H1
                        by_cases c46 : 0 ≤ x17_3
                        · rw [if_pos c46] at H
                          have c46b0 : decide (0 ≤ x17_3) = true := decide_eq_true c46
                          replace H := Option.bind_eq_some_iff.mp H
                          obtain ⟨t317, A470, H⟩ := H
                          replace H : ((transeptref17_has.f k3 t306 (rdOf ByteArray.empty l3 x17_3) true).bind fun t319 => (if t319 = true then (transeptref17_Preflight.l0 k3 false l3 t306 (wrap64 (x17_3 + 1))) else (if (¬ t317.toList = ([97, 117, 116, 104, 111, 114, 105, 122, 97, 116, 105, 111, 110] : List UInt8)) then (transeptref17_Preflight.l0 k3 false l3 t306 (wrap64 (x17_3 + 1))) else (some false)))) = some r := H
                          have A47 := Aside0.mk A470
                          clear A470
                          replace H := Option.bind_eq_some_iff.mp H
                          obtain ⟨t319, A480, H⟩ := H
                          replace H : (if t319 = true then (transeptref17_Preflight.l0 k3 false l3 t306 (wrap64 (x17_3 + 1))) else (if (¬ t317.toList = ([97, 117, 116, 104, 111, 114, 105, 122, 97, 116, 105, 111, 110] : List UInt8)) then (transeptref17_Preflight.l0 k3 false l3 t306 (wrap64 (x17_3 + 1))) else (some false))) = some r := H
                          have A48 := Aside0.mk A480
                          clear A480
                          by_cases c49 : t319 = true
                          · subst c49
                            have H1 : (transeptref17_Preflight.l0 k3 false l3 t306 (wrap64 (x17_3 + 1))) = some r := by rw [if_pos rfl] at H; exact H
                            clear H
                            have H := H1
                            clear H1
                            have H' := Aside0.mk H
                            clear H
                            obtain ⟨Ao50, co50, eo50⟩ := Kd.R_slice HO_14.out
                            subst eo50
                            go_wp2_with (first | (go_at_call 44; (with_reducible refine (transeptref17_has.calls k3 _ _ t306 (⟨#[42]⟩ : ByteArray) false true _ ?side1 ?side2 A44.out).mono ?_); (case side1 => repeat (first | exact (Kd.R_reads' HO_14.out).2.2 | (with_reducible refine Kd.C_alloc ?_ _) | (with_reducible refine Kd.C_drewN ?_ _) | (with_reducible refine Kd.C_drew ?_))); (case side2 => exact (Kd.R_reads' HO_14.out).2.1); rintro e w51 ⟨rfl, hb⟩; have n0_ := Aside0.mk (Kd.R_below (by (with_reducible repeat (first | apply Kd.R_alloc | apply Kd.R_drewN | apply Kd.R_drew)); exact HO_14.out) hb); have n1_ := Aside0.mk (below_step (by repeat (first | (with_reducible first | exact HB.out | apply below_alloc | apply pw_below_drewN | apply below_drew1) | exact HB.out)) hb); clear HO_14; clear HB; have HO_14 := n0_; have HB := n1_; clear n0_ n1_; (try clear hb); (try clear hb2); (try clear hk); (try clear hi); have p316 : 0 ≤ (x17_3 : Int) := of_decide_eq_true (by first | (with_reducible assumption) | assumption); have q316 : x17_3 < (l3.length : Int) := of_decide_eq_true (by first | (with_reducible assumption) | assumption); obtain ⟨ad316, e316, hx316_0⟩ := Kd.at_string HR3.out x17_3 p316 q316; cases e316; replace hx316_0 := (HB.out.cell (World.block_lt_of_cell? w _ hx316_0)).trans hx316_0; replace p316 := eq_true p316; replace q316 := eq_true q316) | (go_at_call 52; (with_reducible refine (transeptref09_Lower.calls (rdOf ByteArray.empty l3 x17_3) t317 _ A47.out).mono ?_); rintro e w52 ⟨rfl, hb⟩; have n0_ := Aside0.mk (Kd.R_below (by (with_reducible repeat (first | apply Kd.R_alloc | apply Kd.R_drewN | apply Kd.R_drew)); exact HO_14.out) hb); have n1_ := Aside0.mk (below_step (by repeat (first | (with_reducible first | exact HB.out | apply below_alloc | apply pw_below_drewN | apply below_drew1) | exact HB.out)) hb); clear HO_14; clear HB; have HO_14 := n0_; have HB := n1_; clear n0_ n1_; (try clear hb); (try clear hb2); (try clear hk); (try clear hi); have p318 : 0 ≤ (x17_3 : Int) := of_decide_eq_true (by first | (with_reducible assumption) | assumption); have q318 : x17_3 < (l3.length : Int) := of_decide_eq_true (by first | (with_reducible assumption) | assumption); obtain ⟨ad318, e318, hx318_0⟩ := Kd.at_string HR3.out x17_3 p318 q318; obtain rfl : ad316 = ad318 := (by injection e318); replace hx318_0 := (HB.out.cell (World.block_lt_of_cell? w _ hx318_0)).trans hx318_0; replace p318 := eq_true p318; replace q318 := eq_true q318) | ((with_reducible refine gate_callee (f := 44) rfl ?_); refine goesL_ (some 81) rfl rfl Tryd.func44 (by kernel_rfl) rfl #[.slice Ao50 t306.length co50, .string (rdOf ByteArray.empty l3 x17_3), .bool true] rfl (by (try simp only [List.map_toArray, List.map_cons, List.map_nil]); first | done | rfl | (simp only [List.length_drop, List.length_take]; rfl)) ?_; (with_reducible refine (transeptref17_has.calls k3 _ _ t306 (rdOf ByteArray.empty l3 x17_3) true true _ ?side1 ?side2 A48.out).mono ?_); (case side1 => repeat (first | exact (Kd.R_reads' HO_14.out).2.2 | (with_reducible refine Kd.C_alloc ?_ _) | (with_reducible refine Kd.C_drewN ?_ _) | (with_reducible refine Kd.C_drew ?_))); (case side2 => exact (Kd.R_reads' HO_14.out).2.1); rintro e w53 ⟨rfl, hb⟩; refine ⟨_, rfl, ?_⟩; have n0_ := Aside0.mk (Kd.R_below (by (with_reducible repeat (first | apply Kd.R_alloc | apply Kd.R_drewN | apply Kd.R_drew)); exact HO_14.out) hb); have n1_ := Aside0.mk (below_step (by repeat (first | (with_reducible first | exact HB.out | apply below_alloc | apply pw_below_drewN | apply below_drew1) | exact HB.out)) hb); clear HO_14; clear HB; have HO_14 := n0_; have HB := n1_; clear n0_ n1_; (try clear hb); (try clear hb2); (try clear hk); (try clear hi)))
                            all_goals (try (exfalso; omega))
                            go_roundg k3
                            case measure => have := HJ6.out; have := HJ16.out; have := HK3.out; omega
                            case rel => exact ⟨(wrap64 (x17_3 + 1)), (by first | rfl | (simp; done) | (simp [*]; done) | (congr 1; unfold wrap64; omega) | (simp; simp only [decide_eq_false_iff_not, decide_eq_true_eq] at *; congr 2; omega)), H', ⟨by have := HJ6.out; have := HJ16.out; have := HK3.out; omega⟩, ⟨by (with_reducible repeat (first | apply Kd.R_alloc | apply Kd.R_drewN | apply Kd.R_drew)); exact HO_14.out⟩, ⟨by repeat (first | (with_reducible first | exact HB.out | apply below_alloc | apply pw_below_drewN | apply below_drew1) | exact HB.out)⟩⟩
                          · replace c49 := Bool.eq_false_iff.mpr c49
                            subst c49
                            have H1 : (if (¬ t317.toList = ([97, 117, 116, 104, 111, 114, 105, 122, 97, 116, 105, 111, 110] : List UInt8)) then (transeptref17_Preflight.l0 k3 false l3 t306 (wrap64 (x17_3 + 1))) else (some false)) = some r := by rw [if_neg (show ¬ (false = true) by decide)] at H; exact H
                            clear H
                            have H := H1
                            clear H1
                            by_cases c54 : (¬ t317.toList = ([97, 117, 116, 104, 111, 114, 105, 122, 97, 116, 105, 111, 110] : List UInt8))
                            · rw [if_pos c54] at H
                              have c54b0 : (t317.toList == ([97, 117, 116, 104, 111, 114, 105, 122, 97, 116, 105, 111, 110] : List UInt8)) = false := beq_eq_false_iff_ne.mpr c54
                              have c54b1 : (t317.toList != ([97, 117, 116, 104, 111, 114, 105, 122, 97, 116, 105, 111, 110] : List UInt8)) = true := bne_iff_ne.mpr c54
                              clear c54
                              have H' := Aside0.mk H
                              clear H
                              obtain ⟨Ao55, co55, eo55⟩ := Kd.R_slice HO_14.out
                              subst eo55
                              go_wp2_with (first | (go_at_call 44; (with_reducible refine (transeptref17_has.calls k3 _ _ t306 (⟨#[42]⟩ : ByteArray) false true _ ?side1 ?side2 A44.out).mono ?_); (case side1 => repeat (first | exact (Kd.R_reads' HO_14.out).2.2 | (with_reducible refine Kd.C_alloc ?_ _) | (with_reducible refine Kd.C_drewN ?_ _) | (with_reducible refine Kd.C_drew ?_))); (case side2 => exact (Kd.R_reads' HO_14.out).2.1); rintro e w56 ⟨rfl, hb⟩; have n0_ := Aside0.mk (Kd.R_below (by (with_reducible repeat (first | apply Kd.R_alloc | apply Kd.R_drewN | apply Kd.R_drew)); exact HO_14.out) hb); have n1_ := Aside0.mk (below_step (by repeat (first | (with_reducible first | exact HB.out | apply below_alloc | apply pw_below_drewN | apply below_drew1) | exact HB.out)) hb); clear HO_14; clear HB; have HO_14 := n0_; have HB := n1_; clear n0_ n1_; (try clear hb); (try clear hb2); (try clear hk); (try clear hi); have p316 : 0 ≤ (x17_3 : Int) := of_decide_eq_true (by first | (with_reducible assumption) | assumption); have q316 : x17_3 < (l3.length : Int) := of_decide_eq_true (by first | (with_reducible assumption) | assumption); obtain ⟨ad316, e316, hx316_0⟩ := Kd.at_string HR3.out x17_3 p316 q316; cases e316; replace hx316_0 := (HB.out.cell (World.block_lt_of_cell? w _ hx316_0)).trans hx316_0; replace p316 := eq_true p316; replace q316 := eq_true q316) | (go_at_call 52; (with_reducible refine (transeptref09_Lower.calls (rdOf ByteArray.empty l3 x17_3) t317 _ A47.out).mono ?_); rintro e w57 ⟨rfl, hb⟩; have n0_ := Aside0.mk (Kd.R_below (by (with_reducible repeat (first | apply Kd.R_alloc | apply Kd.R_drewN | apply Kd.R_drew)); exact HO_14.out) hb); have n1_ := Aside0.mk (below_step (by repeat (first | (with_reducible first | exact HB.out | apply below_alloc | apply pw_below_drewN | apply below_drew1) | exact HB.out)) hb); clear HO_14; clear HB; have HO_14 := n0_; have HB := n1_; clear n0_ n1_; (try clear hb); (try clear hb2); (try clear hk); (try clear hi); have p318 : 0 ≤ (x17_3 : Int) := of_decide_eq_true (by first | (with_reducible assumption) | assumption); have q318 : x17_3 < (l3.length : Int) := of_decide_eq_true (by first | (with_reducible assumption) | assumption); obtain ⟨ad318, e318, hx318_0⟩ := Kd.at_string HR3.out x17_3 p318 q318; obtain rfl : ad316 = ad318 := (by injection e318); replace hx318_0 := (HB.out.cell (World.block_lt_of_cell? w _ hx318_0)).trans hx318_0; replace p318 := eq_true p318; replace q318 := eq_true q318) | ((with_reducible refine gate_callee (f := 44) rfl ?_); refine goesL_ (some 81) rfl rfl Tryd.func44 (by kernel_rfl) rfl #[.slice Ao55 t306.length co55, .string (rdOf ByteArray.empty l3 x17_3), .bool true] rfl (by (try simp only [List.map_toArray, List.map_cons, List.map_nil]); first | done | rfl | (simp only [List.length_drop, List.length_take]; rfl)) ?_; (with_reducible refine (transeptref17_has.calls k3 _ _ t306 (rdOf ByteArray.empty l3 x17_3) true false _ ?side1 ?side2 A48.out).mono ?_); (case side1 => repeat (first | exact (Kd.R_reads' HO_14.out).2.2 | (with_reducible refine Kd.C_alloc ?_ _) | (with_reducible refine Kd.C_drewN ?_ _) | (with_reducible refine Kd.C_drew ?_))); (case side2 => exact (Kd.R_reads' HO_14.out).2.1); rintro e w58 ⟨rfl, hb⟩; refine ⟨_, rfl, ?_⟩; have n0_ := Aside0.mk (Kd.R_below (by (with_reducible repeat (first | apply Kd.R_alloc | apply Kd.R_drewN | apply Kd.R_drew)); exact HO_14.out) hb); have n1_ := Aside0.mk (below_step (by repeat (first | (with_reducible first | exact HB.out | apply below_alloc | apply pw_below_drewN | apply below_drew1) | exact HB.out)) hb); clear HO_14; clear HB; have HO_14 := n0_; have HB := n1_; clear n0_ n1_; (try clear hb); (try clear hb2); (try clear hk); (try clear hi)))
                              all_goals (try (exfalso; omega))
                              go_roundg k3
                              case measure => have := HJ6.out; have := HJ16.out; have := HK3.out; omega
                              case rel => exact ⟨(wrap64 (x17_3 + 1)), (by first | rfl | (simp; done) | (simp [*]; done) | (congr 1; unfold wrap64; omega) | (simp; simp only [decide_eq_false_iff_not, decide_eq_true_eq] at *; congr 2; omega)), H', ⟨by have := HJ6.out; have := HJ16.out; have := HK3.out; omega⟩, ⟨by (with_reducible repeat (first | apply Kd.R_alloc | apply Kd.R_drewN | apply Kd.R_drew)); exact HO_14.out⟩, ⟨by repeat (first | (with_reducible first | exact HB.out | apply below_alloc | apply pw_below_drewN | apply below_drew1) | exact HB.out)⟩⟩
                            · rw [if_neg c54] at H
                              have c54b0 : (t317.toList == ([97, 117, 116, 104, 111, 114, 105, 122, 97, 116, 105, 111, 110] : List UInt8)) = true := beq_iff_eq.mpr (Classical.not_not.mp c54)
                              have c54b1 : (t317.toList != ([97, 117, 116, 104, 111, 114, 105, 122, 97, 116, 105, 111, 110] : List UInt8)) = false := bne_eq_false_iff_eq.mpr (Classical.not_not.mp c54)
                              obtain rfl := Option.some.inj H
                              obtain ⟨Ao59, co59, eo59⟩ := Kd.R_slice HO_14.out
                              subst eo59
                              go_wp2_with (first | (go_at_call 44; (with_reducible refine (transeptref17_has.calls k3 _ _ t306 (⟨#[42]⟩ : ByteArray) false true _ ?side1 ?side2 A44.out).mono ?_); (case side1 => repeat (first | exact (Kd.R_reads' HO_14.out).2.2 | (with_reducible refine Kd.C_alloc ?_ _) | (with_reducible refine Kd.C_drewN ?_ _) | (with_reducible refine Kd.C_drew ?_))); (case side2 => exact (Kd.R_reads' HO_14.out).2.1); rintro e w60 ⟨rfl, hb⟩; have n0_ := Aside0.mk (Kd.R_below (by (with_reducible repeat (first | apply Kd.R_alloc | apply Kd.R_drewN | apply Kd.R_drew)); exact HO_14.out) hb); have n1_ := Aside0.mk (below_step (by repeat (first | (with_reducible first | exact HB.out | apply below_alloc | apply pw_below_drewN | apply below_drew1) | exact HB.out)) hb); clear HO_14; clear HB; have HO_14 := n0_; have HB := n1_; clear n0_ n1_; (try clear hb); (try clear hb2); (try clear hk); (try clear hi); have p316 : 0 ≤ (x17_3 : Int) := of_decide_eq_true (by first | (with_reducible assumption) | assumption); have q316 : x17_3 < (l3.length : Int) := of_decide_eq_true (by first | (with_reducible assumption) | assumption); obtain ⟨ad316, e316, hx316_0⟩ := Kd.at_string HR3.out x17_3 p316 q316; cases e316; replace hx316_0 := (HB.out.cell (World.block_lt_of_cell? w _ hx316_0)).trans hx316_0; replace p316 := eq_true p316; replace q316 := eq_true q316) | (go_at_call 52; (with_reducible refine (transeptref09_Lower.calls (rdOf ByteArray.empty l3 x17_3) t317 _ A47.out).mono ?_); rintro e w61 ⟨rfl, hb⟩; have n0_ := Aside0.mk (Kd.R_below (by (with_reducible repeat (first | apply Kd.R_alloc | apply Kd.R_drewN | apply Kd.R_drew)); exact HO_14.out) hb); have n1_ := Aside0.mk (below_step (by repeat (first | (with_reducible first | exact HB.out | apply below_alloc | apply pw_below_drewN | apply below_drew1) | exact HB.out)) hb); clear HO_14; clear HB; have HO_14 := n0_; have HB := n1_; clear n0_ n1_; (try clear hb); (try clear hb2); (try clear hk); (try clear hi); have p318 : 0 ≤ (x17_3 : Int) := of_decide_eq_true (by first | (with_reducible assumption) | assumption); have q318 : x17_3 < (l3.length : Int) := of_decide_eq_true (by first | (with_reducible assumption) | assumption); obtain ⟨ad318, e318, hx318_0⟩ := Kd.at_string HR3.out x17_3 p318 q318; obtain rfl : ad316 = ad318 := (by injection e318); replace hx318_0 := (HB.out.cell (World.block_lt_of_cell? w _ hx318_0)).trans hx318_0; replace p318 := eq_true p318; replace q318 := eq_true q318) | ((with_reducible refine gate_callee (f := 44) rfl ?_); refine goesL_ (some 81) rfl rfl Tryd.func44 (by kernel_rfl) rfl #[.slice Ao59 t306.length co59, .string (rdOf ByteArray.empty l3 x17_3), .bool true] rfl (by (try simp only [List.map_toArray, List.map_cons, List.map_nil]); first | done | rfl | (simp only [List.length_drop, List.length_take]; rfl)) ?_; (with_reducible refine (transeptref17_has.calls k3 _ _ t306 (rdOf ByteArray.empty l3 x17_3) true false _ ?side1 ?side2 A48.out).mono ?_); (case side1 => repeat (first | exact (Kd.R_reads' HO_14.out).2.2 | (with_reducible refine Kd.C_alloc ?_ _) | (with_reducible refine Kd.C_drewN ?_ _) | (with_reducible refine Kd.C_drew ?_))); (case side2 => exact (Kd.R_reads' HO_14.out).2.1); rintro e w62 ⟨rfl, hb⟩; refine ⟨_, rfl, ?_⟩; have n0_ := Aside0.mk (Kd.R_below (by (with_reducible repeat (first | apply Kd.R_alloc | apply Kd.R_drewN | apply Kd.R_drew)); exact HO_14.out) hb); have n1_ := Aside0.mk (below_step (by repeat (first | (with_reducible first | exact HB.out | apply below_alloc | apply pw_below_drewN | apply below_drew1) | exact HB.out)) hb); clear HO_14; clear HB; have HO_14 := n0_; have HB := n1_; clear n0_ n1_; (try clear hb); (try clear hb2); (try clear hk); (try clear hi)))
                              all_goals (try (exfalso; omega))
                              all_goals go_ret
                              all_goals exact ⟨by first | rfl | (simp [errW_none, errW_some] <;> rfl) | (simp [*, errW_none, errW_some] <;> rfl) | (simp [Ext.ne_nil_empty]; done), by repeat (first | (with_reducible first | exact HB.out | apply below_alloc | apply pw_below_drewN | apply below_drew1) | exact HB.out)⟩
                        · rw [if_neg c46] at H
                          exact absurd H (by simp)
                      · replace c45 := Bool.eq_false_iff.mpr c45
                        subst c45
                        have H1 : (if 0 ≤ x17_3 then ((transeptref17_has.f k3 t306 (rdOf ByteArray.empty l3 x17_3) true).bind fun t321 => (if t321 = true then (transeptref17_Preflight.l0 k3 false l3 t306 (wrap64 (x17_3 + 1))) else (some false))) else (none)) = some r := by rw [if_neg (show ¬ (false = true) by decide)] at H; exact H
                        clear H
                        have H := H1
                        clear H1
                        by_cases c63 : 0 ≤ x17_3
                        · rw [if_pos c63] at H
                          have c63b0 : decide (0 ≤ x17_3) = true := decide_eq_true c63
                          replace H := Option.bind_eq_some_iff.mp H
                          obtain ⟨t321, A640, H⟩ := H
                          replace H : (if t321 = true then (transeptref17_Preflight.l0 k3 false l3 t306 (wrap64 (x17_3 + 1))) else (some false)) = some r := H
                          have A64 := Aside0.mk A640
                          clear A640
                          by_cases c65 : t321 = true
                          · subst c65
                            have H1 : (transeptref17_Preflight.l0 k3 false l3 t306 (wrap64 (x17_3 + 1))) = some r := by rw [if_pos rfl] at H; exact H
                            clear H
                            have H := H1
                            clear H1
                            have H' := Aside0.mk H
                            clear H
                            obtain ⟨Ao66, co66, eo66⟩ := Kd.R_slice HO_14.out
                            subst eo66
                            go_wp2_with (first | (go_at_call 44; (with_reducible refine (transeptref17_has.calls k3 _ _ t306 (⟨#[42]⟩ : ByteArray) false false _ ?side1 ?side2 A44.out).mono ?_); (case side1 => repeat (first | exact (Kd.R_reads' HO_14.out).2.2 | (with_reducible refine Kd.C_alloc ?_ _) | (with_reducible refine Kd.C_drewN ?_ _) | (with_reducible refine Kd.C_drew ?_))); (case side2 => exact (Kd.R_reads' HO_14.out).2.1); rintro e w67 ⟨rfl, hb⟩; have n0_ := Aside0.mk (Kd.R_below (by (with_reducible repeat (first | apply Kd.R_alloc | apply Kd.R_drewN | apply Kd.R_drew)); exact HO_14.out) hb); have n1_ := Aside0.mk (below_step (by repeat (first | (with_reducible first | exact HB.out | apply below_alloc | apply pw_below_drewN | apply below_drew1) | exact HB.out)) hb); clear HO_14; clear HB; have HO_14 := n0_; have HB := n1_; clear n0_ n1_; (try clear hb); (try clear hb2); (try clear hk); (try clear hi); have p320 : 0 ≤ (x17_3 : Int) := of_decide_eq_true (by first | (with_reducible assumption) | assumption); have q320 : x17_3 < (l3.length : Int) := of_decide_eq_true (by first | (with_reducible assumption) | assumption); obtain ⟨ad320, e320, hx320_0⟩ := Kd.at_string HR3.out x17_3 p320 q320; cases e320; replace hx320_0 := (HB.out.cell (World.block_lt_of_cell? w _ hx320_0)).trans hx320_0; replace p320 := eq_true p320; replace q320 := eq_true q320) | ((with_reducible refine gate_callee (f := 44) rfl ?_); refine goesL_ (some 81) rfl rfl Tryd.func44 (by kernel_rfl) rfl #[.slice Ao66 t306.length co66, .string (rdOf ByteArray.empty l3 x17_3), .bool true] rfl (by (try simp only [List.map_toArray, List.map_cons, List.map_nil]); first | done | rfl | (simp only [List.length_drop, List.length_take]; rfl)) ?_; (with_reducible refine (transeptref17_has.calls k3 _ _ t306 (rdOf ByteArray.empty l3 x17_3) true true _ ?side1 ?side2 A64.out).mono ?_); (case side1 => repeat (first | exact (Kd.R_reads' HO_14.out).2.2 | (with_reducible refine Kd.C_alloc ?_ _) | (with_reducible refine Kd.C_drewN ?_ _) | (with_reducible refine Kd.C_drew ?_))); (case side2 => exact (Kd.R_reads' HO_14.out).2.1); rintro e w68 ⟨rfl, hb⟩; refine ⟨_, rfl, ?_⟩; have n0_ := Aside0.mk (Kd.R_below (by (with_reducible repeat (first | apply Kd.R_alloc | apply Kd.R_drewN | apply Kd.R_drew)); exact HO_14.out) hb); have n1_ := Aside0.mk (below_step (by repeat (first | (with_reducible first | exact HB.out | apply below_alloc | apply pw_below_drewN | apply below_drew1) | exact HB.out)) hb); clear HO_14; clear HB; have HO_14 := n0_; have HB := n1_; clear n0_ n1_; (try clear hb); (try clear hb2); (try clear hk); (try clear hi)))
                            all_goals (try (exfalso; omega))
                            go_roundg k3
                            case measure => have := HJ6.out; have := HJ16.out; have := HK3.out; omega
                            case rel => exact ⟨(wrap64 (x17_3 + 1)), (by first | rfl | (simp; done) | (simp [*]; done) | (congr 1; unfold wrap64; omega) | (simp; simp only [decide_eq_false_iff_not, decide_eq_true_eq] at *; congr 2; omega)), H', ⟨by have := HJ6.out; have := HJ16.out; have := HK3.out; omega⟩, ⟨by (with_reducible repeat (first | apply Kd.R_alloc | apply Kd.R_drewN | apply Kd.R_drew)); exact HO_14.out⟩, ⟨by repeat (first | (with_reducible first | exact HB.out | apply below_alloc | apply pw_below_drewN | apply below_drew1) | exact HB.out)⟩⟩
                          · replace c65 := Bool.eq_false_iff.mpr c65
                            subst c65
                            have H1 : (some false) = some r := by rw [if_neg (show ¬ (false = true) by decide)] at H; exact H
                            clear H
                            have H := H1
                            clear H1
                            obtain rfl := Option.some.inj H
                            obtain ⟨Ao69, co69, eo69⟩ := Kd.R_slice HO_14.out
                            subst eo69
                            go_wp2_with (first | (go_at_call 44; (with_reducible refine (transeptref17_has.calls k3 _ _ t306 (⟨#[42]⟩ : ByteArray) false false _ ?side1 ?side2 A44.out).mono ?_); (case side1 => repeat (first | exact (Kd.R_reads' HO_14.out).2.2 | (with_reducible refine Kd.C_alloc ?_ _) | (with_reducible refine Kd.C_drewN ?_ _) | (with_reducible refine Kd.C_drew ?_))); (case side2 => exact (Kd.R_reads' HO_14.out).2.1); rintro e w70 ⟨rfl, hb⟩; have n0_ := Aside0.mk (Kd.R_below (by (with_reducible repeat (first | apply Kd.R_alloc | apply Kd.R_drewN | apply Kd.R_drew)); exact HO_14.out) hb); have n1_ := Aside0.mk (below_step (by repeat (first | (with_reducible first | exact HB.out | apply below_alloc | apply pw_below_drewN | apply below_drew1) | exact HB.out)) hb); clear HO_14; clear HB; have HO_14 := n0_; have HB := n1_; clear n0_ n1_; (try clear hb); (try clear hb2); (try clear hk); (try clear hi); have p320 : 0 ≤ (x17_3 : Int) := of_decide_eq_true (by first | (with_reducible assumption) | assumption); have q320 : x17_3 < (l3.length : Int) := of_decide_eq_true (by first | (with_reducible assumption) | assumption); obtain ⟨ad320, e320, hx320_0⟩ := Kd.at_string HR3.out x17_3 p320 q320; cases e320; replace hx320_0 := (HB.out.cell (World.block_lt_of_cell? w _ hx320_0)).trans hx320_0; replace p320 := eq_true p320; replace q320 := eq_true q320) | ((with_reducible refine gate_callee (f := 44) rfl ?_); refine goesL_ (some 81) rfl rfl Tryd.func44 (by kernel_rfl) rfl #[.slice Ao69 t306.length co69, .string (rdOf ByteArray.empty l3 x17_3), .bool true] rfl (by (try simp only [List.map_toArray, List.map_cons, List.map_nil]); first | done | rfl | (simp only [List.length_drop, List.length_take]; rfl)) ?_; (with_reducible refine (transeptref17_has.calls k3 _ _ t306 (rdOf ByteArray.empty l3 x17_3) true false _ ?side1 ?side2 A64.out).mono ?_); (case side1 => repeat (first | exact (Kd.R_reads' HO_14.out).2.2 | (with_reducible refine Kd.C_alloc ?_ _) | (with_reducible refine Kd.C_drewN ?_ _) | (with_reducible refine Kd.C_drew ?_))); (case side2 => exact (Kd.R_reads' HO_14.out).2.1); rintro e w71 ⟨rfl, hb⟩; refine ⟨_, rfl, ?_⟩; have n0_ := Aside0.mk (Kd.R_below (by (with_reducible repeat (first | apply Kd.R_alloc | apply Kd.R_drewN | apply Kd.R_drew)); exact HO_14.out) hb); have n1_ := Aside0.mk (below_step (by repeat (first | (with_reducible first | exact HB.out | apply below_alloc | apply pw_below_drewN | apply below_drew1) | exact HB.out)) hb); clear HO_14; clear HB; have HO_14 := n0_; have HB := n1_; clear n0_ n1_; (try clear hb); (try clear hb2); (try clear hk); (try clear hi)))
                            all_goals (try (exfalso; omega))
                            all_goals go_ret
                            all_goals exact ⟨by first | rfl | (simp [errW_none, errW_some] <;> rfl) | (simp [*, errW_none, errW_some] <;> rfl) | (simp [Ext.ne_nil_empty]; done), by repeat (first | (with_reducible first | exact HB.out | apply below_alloc | apply pw_below_drewN | apply below_drew1) | exact HB.out)⟩
                        · rw [if_neg c63] at H
                          exact absurd H (by simp)
                  · rw [if_neg c35] at H
                    have c35b0 : decide (x17_3 < (l3.length : Int)) = false := decide_eq_false c35
                    obtain rfl := Option.some.inj H
                    go_wp2
                    all_goals (try (exfalso; omega))
                    all_goals go_ret
                    all_goals exact ⟨by first | rfl | (simp [errW_none, errW_some] <;> rfl) | (simp [*, errW_none, errW_some] <;> rfl) | (simp [Ext.ne_nil_empty]; done), by repeat (first | (with_reducible first | exact HB.out | apply below_alloc | apply pw_below_drewN | apply below_drew1) | exact HB.out)⟩


end Go.Proofs.YtaabfmpoodjhjaaDoor.Fun
