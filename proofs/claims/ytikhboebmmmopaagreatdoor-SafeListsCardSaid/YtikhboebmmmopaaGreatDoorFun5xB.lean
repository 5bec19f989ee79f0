-- Written by xprint.py, a program of this session's, by means of the kit's print. Not trusted: Lean checks it.
import Derived.Test.YtikhboebmmmopaaGreatDoorFun0
import Derived.Test.YtikhboebmmmopaaGreatDoorFun2xB
import Derived.Test.YtikhboebmmmopaaGreatDoorFun3xB
import Derived.Test.YtikhboebmmmopaaGreatDoorFun4xB
import Derived.Test.YtikhboebmmmopaaGreatDoorFunRxB
namespace Go.Proofs.YtikhboebmmmopaaGreatDoor.Fun
open Go.RowKit Go.Proofs.YtikhboebmmmopaaGreatDoorW.PrintWords Go.Proofs.YtikhboebmmmopaaGreatDoorW.PrintLast Go.Proofs.YtikhboebmmmopaaGreatDoorW.PrintMore
attribute [local go_sem] max2_int min2_int max_two min_two max_three min_three max_four min_four   -- for this text's walks alone
set_option linter.unusedVariables false
set_option linter.unusedSimpArgs false

/-! ### transeptref12_Header: function 9 -/
def transeptref12_Header.j0 : Nat → ByteArray → ByteArray → Bool → Option (Bool)
  | 0, _, _, _ => none
  | k + 1, x1, x11, x17 => if x17 = true then ((transeptref12_plain.f k x1).bind fun t183 => (some t183)) else (if x11.toList = ([99, 111, 110, 116, 101, 110, 116, 45, 116, 121, 112, 101] : List UInt8) then ((transeptref11_Essence.f k x1).bind fun bt184 => ((transeptref12_odd.f k x1).bind fun t186 => (if t186 = true then (some false) else ((transeptref12_among.f k (([(⟨#[97, 112, 112, 108, 105, 99, 97, 116, 105, 111, 110, 47, 120, 45, 119, 119, 119, 45, 102, 111, 114, 109, 45, 117, 114, 108, 101, 110, 99, 111, 100, 101, 100]⟩ : ByteArray), (⟨#[109, 117, 108, 116, 105, 112, 97, 114, 116, 47, 102, 111, 114, 109, 45, 100, 97, 116, 97]⟩ : ByteArray), (⟨#[116, 101, 120, 116, 47, 112, 108, 97, 105, 110]⟩ : ByteArray)] : List ByteArray)) bt184.1).bind fun t190 => (some t190))))) else (if x11.toList = ([114, 97, 110, 103, 101] : List UInt8) then ((transeptref12_ranged.f k x1).bind fun t191 => (some t191)) else (some false)))
def transeptref12_Header.f (k : Nat) (a0 : ByteArray) (a1 : ByteArray) : Option (Bool) := if (a1.size : Int) > 128 then (some false) else ((transeptref09_Lower.f a0).bind fun t181 => (if t181.toList = ([97, 99, 99, 101, 112, 116] : List UInt8) then ((transeptref12_odd.f k a1).bind fun t182 => (some (!t182))) else (if t181.toList = ([97, 99, 99, 101, 112, 116, 45, 108, 97, 110, 103, 117, 97, 103, 101] : List UInt8) then (transeptref12_Header.j0 k a1 t181 (t181.toList == ([97, 99, 99, 101, 112, 116, 45, 108, 97, 110, 103, 117, 97, 103, 101] : List UInt8))) else (transeptref12_Header.j0 k a1 t181 (t181.toList == ([99, 111, 110, 116, 101, 110, 116, 45, 108, 97, 110, 103, 117, 97, 103, 101] : List UInt8))))))
set_option maxHeartbeats 8000000 in
set_option maxRecDepth 100000 in
theorem transeptref12_Header.calls (k : Nat) (a0 : ByteArray) (a1 : ByteArray) (r : Bool) (w : World) (h : transeptref12_Header.f k a0 a1 = some r) :
    Calls Tryz.prog 9 #[.string a0, .string a1] w fun e w' => e = .returned (.bool r) ∧ Below w.heap.size w w' := by
  have HB := Aside0.mk (Below.refl w.heap.size w)
  have H : (if (a1.size : Int) > 128 then (some false) else ((transeptref09_Lower.f a0).bind fun t181 => (if t181.toList = ([97, 99, 99, 101, 112, 116] : List UInt8) then ((transeptref12_odd.f k a1).bind fun t182 => (some (!t182))) else (if t181.toList = ([97, 99, 99, 101, 112, 116, 45, 108, 97, 110, 103, 117, 97, 103, 101] : List UInt8) then (transeptref12_Header.j0 k a1 t181 (t181.toList == ([97, 99, 99, 101, 112, 116, 45, 108, 97, 110, 103, 117, 97, 103, 101] : List UInt8))) else (transeptref12_Header.j0 k a1 t181 (t181.toList == ([99, 111, 110, 116, 101, 110, 116, 45, 108, 97, 110, 103, 117, 97, 103, 101] : List UInt8))))))) = some r := h
  clear h
  by_cases c3 : (a1.size : Int) > 128
  · rw [if_pos c3] at H
    have c3b0 : decide (128 < (a1.size : Int)) = true := decide_eq_true c3
    have c3b1 : decide (128 < a1.size) = true := decide_eq_true (by omega)
    obtain rfl := Option.some.inj H
    go_enter Tryz.func9, Tryz.ntmps9
    go_wp2
    all_goals (try (exfalso; omega))
    all_goals go_ret
    all_goals exact ⟨by first | rfl | (simp [errW_none, errW_some] <;> rfl) | (simp [*, errW_none, errW_some] <;> rfl) | (simp [Ext.ne_nil_empty]; done), by repeat (first | (with_reducible first | exact HB.out | apply below_alloc | apply pw_below_drewN | apply below_drew1) | exact HB.out)⟩
  · rw [if_neg c3] at H
    have c3b0 : decide (128 < (a1.size : Int)) = false := decide_eq_false c3
    have c3b1 : decide (128 < a1.size) = false := decide_eq_false (by omega)
    replace H := Option.bind_eq_some_iff.mp H
    obtain ⟨t181, A40, H⟩ := H
    replace H : (if t181.toList = ([97, 99, 99, 101, 112, 116] : List UInt8) then ((transeptref12_odd.f k a1).bind fun t182 => (some (!t182))) else (if t181.toList = ([97, 99, 99, 101, 112, 116, 45, 108, 97, 110, 103, 117, 97, 103, 101] : List UInt8) then (transeptref12_Header.j0 k a1 t181 (t181.toList == ([97, 99, 99, 101, 112, 116, 45, 108, 97, 110, 103, 117, 97, 103, 101] : List UInt8))) else (transeptref12_Header.j0 k a1 t181 (t181.toList == ([99, 111, 110, 116, 101, 110, 116, 45, 108, 97, 110, 103, 117, 97, 103, 101] : List UInt8))))) = some r := H
    have A4 := Aside0.mk A40
    clear A40
    by_cases c5 : t181.toList = ([97, 99, 99, 101, 112, 116] : List UInt8)
    · rw [if_pos c5] at H
      have c5b0 : (t181.toList == ([97, 99, 99, 101, 112, 116] : List UInt8)) = true := beq_iff_eq.mpr c5
      have c5b1 : (t181.toList != ([97, 99, 99, 101, 112, 116] : List UInt8)) = false := bne_eq_false_iff_eq.mpr c5
      clear c5
      replace H := Option.bind_eq_some_iff.mp H
      obtain ⟨t182, A60, H⟩ := H
      replace H : (some (!t182)) = some r := H
      have A6 := Aside0.mk A60
      clear A60
      obtain rfl := Option.some.inj H
      go_enter Tryz.func9, Tryz.ntmps9
      go_wp2_with (first | ((with_reducible refine gate_callee (f := 25) rfl ?_); refine goesL_ (some 11) rfl rfl Tryz.func25 (by kernel_rfl) rfl #[.string a0] rfl (by (try simp only [List.map_toArray, List.map_cons, List.map_nil]); first | done | rfl | (simp only [List.length_drop, List.length_take]; rfl)) ?_; (with_reducible refine (transeptref09_Lower.calls a0 t181 _ A4.out).mono ?_); rintro e w7 ⟨rfl, hb⟩; refine ⟨_, rfl, ?_⟩; have n0_ := Aside0.mk (below_step (by repeat (first | (with_reducible first | exact HB.out | apply below_alloc | apply pw_below_drewN | apply below_drew1) | exact HB.out)) hb); clear HB; have HB := n0_; clear n0_; (try clear hb); (try clear hb2); (try clear hk); (try clear hi)) | ((with_reducible refine gate_callee (f := 26) rfl ?_); refine goesL_ (some 15) rfl rfl Tryz.func26 (by kernel_rfl) rfl #[.string a1] rfl (by (try simp only [List.map_toArray, List.map_cons, List.map_nil]); first | done | rfl | (simp only [List.length_drop, List.length_take]; rfl)) ?_; (with_reducible refine (transeptref12_odd.calls k a1 t182 _ A6.out).mono ?_); rintro e w' ⟨rfl, ⟨nd, rfl⟩⟩; refine ⟨_, rfl, ?_⟩))
      all_goals (try (exfalso; omega))
      all_goals go_ret
      all_goals exact ⟨by first | rfl | (simp [errW_none, errW_some] <;> rfl) | (simp [*, errW_none, errW_some] <;> rfl) | (simp [Ext.ne_nil_empty]; done), by repeat (first | (with_reducible first | exact HB.out | apply below_alloc | apply pw_below_drewN | apply below_drew1) | exact HB.out)⟩
    · rw [if_neg c5] at H
      have c5b0 : (t181.toList == ([97, 99, 99, 101, 112, 116] : List UInt8)) = false := beq_eq_false_iff_ne.mpr c5
      have c5b1 : (t181.toList != ([97, 99, 99, 101, 112, 116] : List UInt8)) = true := bne_iff_ne.mpr c5
      have HC8 := Aside0.mk H
      clear H
      go_enter Tryz.func9, Tryz.ntmps9
      go_upto_if 17 with (first | ((with_reducible refine gate_callee (f := 25) rfl ?_); refine goesL_ (some 11) rfl rfl Tryz.func25 (by kernel_rfl) rfl #[.string a0] rfl (by (try simp only [List.map_toArray, List.map_cons, List.map_nil]); first | done | rfl | (simp only [List.length_drop, List.length_take]; rfl)) ?_; (with_reducible refine (transeptref09_Lower.calls a0 t181 _ A4.out).mono ?_); rintro e w9 ⟨rfl, hb⟩; refine ⟨_, rfl, ?_⟩; have n0_ := Aside0.mk (below_step (by repeat (first | (with_reducible first | exact HB.out | apply below_alloc | apply pw_below_drewN | apply below_drew1) | exact HB.out)) hb); clear HB; have HB := n0_; clear n0_; (try clear hb); (try clear hb2); (try clear hk); (try clear hi)))
      (try simp only [Act.put, List.setIfInBounds_toArray, List.set_cons_zero, List.set_cons_succ])
      go_cut [17] (fun v17 wc => ∃ (kq : Nat) (x17_7 : Bool), v17 = .bool x17_7 ∧ Aside0 (transeptref12_Header.j0 kq a1 t181 x17_7 = some r) ∧ Aside0 (kq ≤ k) ∧ Aside0 (Below w.heap.size w wc))
      case first =>
        have H := HC8.out
        clear HC8
        by_cases c10 : t181.toList = ([97, 99, 99, 101, 112, 116, 45, 108, 97, 110, 103, 117, 97, 103, 101] : List UInt8)
        · rw [if_pos c10] at H
          have c10b0 : (t181.toList == ([97, 99, 99, 101, 112, 116, 45, 108, 97, 110, 103, 117, 97, 103, 101] : List UInt8)) = true := beq_iff_eq.mpr c10
          have c10b1 : (t181.toList != ([97, 99, 99, 101, 112, 116, 45, 108, 97, 110, 103, 117, 97, 103, 101] : List UInt8)) = false := bne_eq_false_iff_eq.mpr c10
          clear c10
          (first | rw [c10b0] | (simp only [i64_w, i32_w]; rw [c10b0]) | skip)
          have H' := Aside0.mk H
          clear H
          go_wp2
          all_goals (try (exfalso; omega))
          go_meet
          case rel => exact ⟨_, ((t181.toList == ([97, 99, 99, 101, 112, 116, 45, 108, 97, 110, 103, 117, 97, 103, 101] : List UInt8))), (by first | rfl | (simp; done) | (simp [*]; done) | (congr 1; unfold wrap64; omega) | (simp; simp only [decide_eq_false_iff_not, decide_eq_true_eq] at *; congr 2; omega)), H', ⟨by first | omega | exact Nat.le_refl _⟩, ⟨by repeat (first | (with_reducible first | exact HB.out | apply below_alloc | apply pw_below_drewN | apply below_drew1) | exact HB.out)⟩⟩
        · rw [if_neg c10] at H
          have c10b0 : (t181.toList == ([97, 99, 99, 101, 112, 116, 45, 108, 97, 110, 103, 117, 97, 103, 101] : List UInt8)) = false := beq_eq_false_iff_ne.mpr c10
          have c10b1 : (t181.toList != ([97, 99, 99, 101, 112, 116, 45, 108, 97, 110, 103, 117, 97, 103, 101] : List UInt8)) = true := bne_iff_ne.mpr c10
          (first | rw [c10b0] | (simp only [i64_w, i32_w]; rw [c10b0]) | skip)
          have H' := Aside0.mk H
          clear H
          go_wp2
          all_goals (try (exfalso; omega))
          go_meet
          case rel => exact ⟨_, ((t181.toList == ([99, 111, 110, 116, 101, 110, 116, 45, 108, 97, 110, 103, 117, 97, 103, 101] : List UInt8))), (by first | rfl | (simp; done) | (simp [*]; done) | (congr 1; unfold wrap64; omega) | (simp; simp only [decide_eq_false_iff_not, decide_eq_true_eq] at *; congr 2; omega)), H', ⟨by first | omega | exact Nat.le_refl _⟩, ⟨by repeat (first | (with_reducible first | exact HB.out | apply below_alloc | apply pw_below_drewN | apply below_drew1) | exact HB.out)⟩⟩
      case rest =>
        clear HC8
        try clear c1
        try clear c2
        try clear p2
        try clear c3
        try clear c3b0
        try clear c3b1
        try clear c5
        try clear c5b0
        try clear c5b1
        try clear c9
        try clear c10
        try clear c10b0
        try clear c10b1
        obtain ⟨kq, x17_7, rfl, HA, HJ7, HB⟩ := hcut
        cases kq with
        | zero => exact absurd HA.out (by simp [transeptref12_Header.j0])
        | succ kj7 =>
          have H := HA.out
          clear HA
          simp only [transeptref12_Header.j0] at H
          by_cases c11 : x17_7 = true
          · subst c11
            have H1 : ((transeptref12_plain.f kj7 a1).bind fun t183 => (some t183)) = some r := by rw [if_pos rfl] at H; exact H
            clear H
            have H := H1
            clear H1
            replace H := Option.bind_eq_some_iff.mp H
            obtain ⟨t183, A120, H⟩ := H
            replace H : (some t183) = some r := H
            have A12 := Aside0.mk A120
            clear A120
            obtain rfl := Option.some.inj H
            go_wp2_with (first | ((with_reducible refine gate_callee (f := 27) rfl ?_); refine goesL_ (some 21) rfl rfl Tryz.func27 (by kernel_rfl) rfl #[.string a1] rfl (by (try simp only [List.map_toArray, List.map_cons, List.map_nil]); first | done | rfl | (simp only [List.length_drop, List.length_take]; rfl)) ?_; (with_reducible refine (transeptref12_plain.calls kj7 a1 t183 _ A12.out).mono ?_); rintro e w' ⟨rfl, ⟨nd, rfl⟩⟩; refine ⟨_, rfl, ?_⟩))
            all_goals (try (exfalso; omega))
            all_goals go_ret
            all_goals exact ⟨by first | rfl | (simp [errW_none, errW_some] <;> rfl) | (simp [*, errW_none, errW_some] <;> rfl) | (simp [Ext.ne_nil_empty]; done), by repeat (first | (with_reducible first | exact HB.out | apply below_alloc | apply pw_below_drewN | apply below_drew1) | exact HB.out)⟩
          · replace c11 := Bool.eq_false_iff.mpr c11
            subst c11
            have H1 : (if t181.toList = ([99, 111, 110, 116, 101, 110, 116, 45, 116, 121, 112, 101] : List UInt8) then ((transeptref11_Essence.f kj7 a1).bind fun bt184 => ((transeptref12_odd.f kj7 a1).bind fun t186 => (if t186 = true then (some false) else ((transeptref12_among.f kj7 (([(⟨#[97, 112, 112, 108, 105, 99, 97, 116, 105, 111, 110, 47, 120, 45, 119, 119, 119, 45, 102, 111, 114, 109, 45, 117, 114, 108, 101, 110, 99, 111, 100, 101, 100]⟩ : ByteArray), (⟨#[109, 117, 108, 116, 105, 112, 97, 114, 116, 47, 102, 111, 114, 109, 45, 100, 97, 116, 97]⟩ : ByteArray), (⟨#[116, 101, 120, 116, 47, 112, 108, 97, 105, 110]⟩ : ByteArray)] : List ByteArray)) bt184.1).bind fun t190 => (some t190))))) else (if t181.toList = ([114, 97, 110, 103, 101] : List UInt8) then ((transeptref12_ranged.f kj7 a1).bind fun t191 => (some t191)) else (some false))) = some r := by rw [if_neg (show ¬ (false = true) by decide)] at H; exact H
            clear H
            have H := H1
            clear H1
            by_cases c13 : t181.toList = ([99, 111, 110, 116, 101, 110, 116, 45, 116, 121, 112, 101] : List UInt8)
            · rw [if_pos c13] at H
              have c13b0 : (t181.toList == ([99, 111, 110, 116, 101, 110, 116, 45, 116, 121, 112, 101] : List UInt8)) = true := beq_iff_eq.mpr c13
              have c13b1 : (t181.toList != ([99, 111, 110, 116, 101, 110, 116, 45, 116, 121, 112, 101] : List UInt8)) = false := bne_eq_false_iff_eq.mpr c13
              clear c13
              replace H := Option.bind_eq_some_iff.mp H
              obtain ⟨⟨t184, t185⟩, A140, H⟩ := H
              replace H : ((transeptref12_odd.f kj7 a1).bind fun t186 => (if t186 = true then (some false) else ((transeptref12_among.f kj7 (([(⟨#[97, 112, 112, 108, 105, 99, 97, 116, 105, 111, 110, 47, 120, 45, 119, 119, 119, 45, 102, 111, 114, 109, 45, 117, 114, 108, 101, 110, 99, 111, 100, 101, 100]⟩ : ByteArray), (⟨#[109, 117, 108, 116, 105, 112, 97, 114, 116, 47, 102, 111, 114, 109, 45, 100, 97, 116, 97]⟩ : ByteArray), (⟨#[116, 101, 120, 116, 47, 112, 108, 97, 105, 110]⟩ : ByteArray)] : List ByteArray)) t184).bind fun t190 => (some t190)))) = some r := H
              have A14 := Aside0.mk A140
              clear A140
              replace H := Option.bind_eq_some_iff.mp H
              obtain ⟨t186, A150, H⟩ := H
              replace H : (if t186 = true then (some false) else ((transeptref12_among.f kj7 (([(⟨#[97, 112, 112, 108, 105, 99, 97, 116, 105, 111, 110, 47, 120, 45, 119, 119, 119, 45, 102, 111, 114, 109, 45, 117, 114, 108, 101, 110, 99, 111, 100, 101, 100]⟩ : ByteArray), (⟨#[109, 117, 108, 116, 105, 112, 97, 114, 116, 47, 102, 111, 114, 109, 45, 100, 97, 116, 97]⟩ : ByteArray), (⟨#[116, 101, 120, 116, 47, 112, 108, 97, 105, 110]⟩ : ByteArray)] : List ByteArray)) t184).bind fun t190 => (some t190))) = some r := H
              have A15 := Aside0.mk A150
              clear A150
              by_cases c16 : t186 = true
              · subst c16
                have H1 : (some false) = some r := by rw [if_pos rfl] at H; exact H
                clear H
                have H := H1
                clear H1
                obtain rfl := Option.some.inj H
                go_wp2_with (first | ((with_reducible refine gate_callee (f := 28) rfl ?_); refine goesL_ (some 26) rfl rfl Tryz.func28 (by kernel_rfl) rfl #[.string a1] rfl (by (try simp only [List.map_toArray, List.map_cons, List.map_nil]); first | done | rfl | (simp only [List.length_drop, List.length_take]; rfl)) ?_; (with_reducible refine (transeptref11_Essence.calls kj7 a1 t184 t185 _ A14.out).mono ?_); rintro e w17 ⟨rfl, hb⟩; refine ⟨_, rfl, ?_⟩; have n0_ := Aside0.mk (below_step (by repeat (first | (with_reducible first | exact HB.out | apply below_alloc | apply pw_below_drewN | apply below_drew1) | exact HB.out)) hb); clear HB; have HB := n0_; clear n0_; (try clear hb); (try clear hb2); (try clear hk); (try clear hi)) | ((with_reducible refine gate_callee (f := 26) rfl ?_); refine goesL_ (some 30) rfl rfl Tryz.func26 (by kernel_rfl) rfl #[.string a1] rfl (by (try simp only [List.map_toArray, List.map_cons, List.map_nil]); first | done | rfl | (simp only [List.length_drop, List.length_take]; rfl)) ?_; (with_reducible refine (transeptref12_odd.calls kj7 a1 true _ A15.out).mono ?_); rintro e w' ⟨rfl, ⟨nd, rfl⟩⟩; refine ⟨_, rfl, ?_⟩))
                all_goals (try (exfalso; omega))
                all_goals go_ret
                all_goals exact ⟨by first | rfl | (simp [errW_none, errW_some] <;> rfl) | (simp [*, errW_none, errW_some] <;> rfl) | (simp [Ext.ne_nil_empty]; done), by repeat (first | (with_reducible first | exact HB.out | apply below_alloc | apply pw_below_drewN | apply below_drew1) | exact HB.out)⟩
              · replace c16 := Bool.eq_false_iff.mpr c16
                subst c16
                have H1 : ((transeptref12_among.f kj7 (([(⟨#[97, 112, 112, 108, 105, 99, 97, 116, 105, 111, 110, 47, 120, 45, 119, 119, 119, 45, 102, 111, 114, 109, 45, 117, 114, 108, 101, 110, 99, 111, 100, 101, 100]⟩ : ByteArray), (⟨#[109, 117, 108, 116, 105, 112, 97, 114, 116, 47, 102, 111, 114, 109, 45, 100, 97, 116, 97]⟩ : ByteArray), (⟨#[116, 101, 120, 116, 47, 112, 108, 97, 105, 110]⟩ : ByteArray)] : List ByteArray)) t184).bind fun t190 => (some t190)) = some r := by rw [if_neg (show ¬ (false = true) by decide)] at H; exact H
                clear H
                have H := H1
                clear H1
                obtain ⟨y187, hy187⟩ : ∃ y_ : List ByteArray, y_ = (([(⟨#[97, 112, 112, 108, 105, 99, 97, 116, 105, 111, 110, 47, 120, 45, 119, 119, 119, 45, 102, 111, 114, 109, 45, 117, 114, 108, 101, 110, 99, 111, 100, 101, 100]⟩ : ByteArray), (⟨#[109, 117, 108, 116, 105, 112, 97, 114, 116, 47, 102, 111, 114, 109, 45, 100, 97, 116, 97]⟩ : ByteArray), (⟨#[116, 101, 120, 116, 47, 112, 108, 97, 105, 110]⟩ : ByteArray)] : List ByteArray)) := ⟨_, rfl⟩
                replace H : ((transeptref12_among.f kj7 y187 t184).bind fun t190 => (some t190)) = some r := by first | (rw [hy187]; with_reducible exact H) | (have H2_ := (Option.bind_some _ _).symm.trans H; rw [hy187]; with_reducible exact H2_) | (have H2_ := (Option.bind_some _ _).symm.trans H; with_reducible exact H2_) | with_reducible exact H | (rw [hy187]; exact H) | exact H
                have Ny187 := Aside0.mk hy187
                clear hy187
                replace H := Option.bind_eq_some_iff.mp H
                obtain ⟨t190, A180, H⟩ := H
                replace H : (some t190) = some r := H
                have A18 := Aside0.mk A180
                clear A180
                obtain rfl := Option.some.inj H
                go_wp2_with (first | ((with_reducible refine gate_callee (f := 28) rfl ?_); refine goesL_ (some 26) rfl rfl Tryz.func28 (by kernel_rfl) rfl #[.string a1] rfl (by (try simp only [List.map_toArray, List.map_cons, List.map_nil]); first | done | rfl | (simp only [List.length_drop, List.length_take]; rfl)) ?_; (with_reducible refine (transeptref11_Essence.calls kj7 a1 t184 t185 _ A14.out).mono ?_); rintro e w19 ⟨rfl, hb⟩; refine ⟨_, rfl, ?_⟩; have n0_ := Aside0.mk (below_step (by repeat (first | (with_reducible first | exact HB.out | apply below_alloc | apply pw_below_drewN | apply below_drew1) | exact HB.out)) hb); clear HB; have HB := n0_; clear n0_; (try clear hb); (try clear hb2); (try clear hk); (try clear hi)) | ((with_reducible refine gate_callee (f := 26) rfl ?_); refine goesL_ (some 30) rfl rfl Tryz.func26 (by kernel_rfl) rfl #[.string a1] rfl (by (try simp only [List.map_toArray, List.map_cons, List.map_nil]); first | done | rfl | (simp only [List.length_drop, List.length_take]; rfl)) ?_; (with_reducible refine (transeptref12_odd.calls kj7 a1 false _ A15.out).mono ?_); rintro e w' ⟨rfl, ⟨nd, rfl⟩⟩; refine ⟨_, rfl, ?_⟩) | ((with_reducible refine gate_dst (N := 33) rfl ?_); (try (refine gate_guard (by rfl) ?_; dsimp only)); refine Kd.R_lit Kd.string _ 9 ?hg (N := 33) ?hd (xs := ([(⟨#[97, 112, 112, 108, 105, 99, 97, 116, 105, 111, 110, 47, 120, 45, 119, 119, 119, 45, 102, 111, 114, 109, 45, 117, 114, 108, 101, 110, 99, 111, 100, 101, 100]⟩ : ByteArray), (⟨#[109, 117, 108, 116, 105, 112, 97, 114, 116, 47, 102, 111, 114, 109, 45, 100, 97, 116, 97]⟩ : ByteArray), (⟨#[116, 101, 120, 116, 47, 112, 108, 97, 105, 110]⟩ : ByteArray)] : List ByteArray)) (inner := [.string (⟨#[97, 112, 112, 108, 105, 99, 97, 116, 105, 111, 110, 47, 120, 45, 119, 119, 119, 45, 102, 111, 114, 109, 45, 117, 114, 108, 101, 110, 99, 111, 100, 101, 100]⟩ : ByteArray), .string (⟨#[109, 117, 108, 116, 105, 112, 97, 114, 116, 47, 102, 111, 114, 109, 45, 100, 97, 116, 97]⟩ : ByteArray), .string (⟨#[116, 101, 120, 116, 47, 112, 108, 97, 105, 110]⟩ : ByteArray)]) (ok := fun _ => True) (okp := fun _ => True) ?hr ?hp (fun _ hk => hk) trivial (Below.refl _ _) (Nat.le_refl _) (by simp) ?_; (case hd => rfl); (case hg => rfl); (case hr => first | (go_simp; done) | (go_simp; rfl)); (case hp => exact (Reps.one (show Kd.M Kd.string _ _ _ (⟨#[97, 112, 112, 108, 105, 99, 97, 116, 105, 111, 110, 47, 120, 45, 119, 119, 119, 45, 102, 111, 114, 109, 45, 117, 114, 108, 101, 110, 99, 111, 100, 101, 100]⟩ : ByteArray) [.string (⟨#[97, 112, 112, 108, 105, 99, 97, 116, 105, 111, 110, 47, 120, 45, 119, 119, 119, 45, 102, 111, 114, 109, 45, 117, 114, 108, 101, 110, 99, 111, 100, 101, 100]⟩ : ByteArray)] from rfl) (Reps.one (show Kd.M Kd.string _ _ _ (⟨#[109, 117, 108, 116, 105, 112, 97, 114, 116, 47, 102, 111, 114, 109, 45, 100, 97, 116, 97]⟩ : ByteArray) [.string (⟨#[109, 117, 108, 116, 105, 112, 97, 114, 116, 47, 102, 111, 114, 109, 45, 100, 97, 116, 97]⟩ : ByteArray)] from rfl) (Reps.one (show Kd.M Kd.string _ _ _ (⟨#[116, 101, 120, 116, 47, 112, 108, 97, 105, 110]⟩ : ByteArray) [.string (⟨#[116, 101, 120, 116, 47, 112, 108, 97, 105, 110]⟩ : ByteArray)] from rfl) (Reps.none _ _))))); intro v188 w20 ho21 hb hg_ hnew_; clear hg_ hnew_; (first | rw [← Ny187.out] at ho21 | (simp only [Int.reduceToNat] at ho21; rw [← Ny187.out] at ho21)); have n0_ := Aside0.mk (Kd.R_lower ho21 (below_size (by repeat (first | (with_reducible first | exact HB.out | apply below_alloc | apply pw_below_drewN | apply below_drew1) | exact HB.out)))); have n1_ := Aside0.mk (below_step (by repeat (first | (with_reducible first | exact HB.out | apply below_alloc | apply pw_below_drewN | apply below_drew1) | exact HB.out)) hb); clear HB; have HO189 := n0_; have HB := n1_; clear n0_ n1_; clear hb ho21; obtain ⟨Ao22, co22, eo22⟩ := Kd.R_slice HO189.out; subst eo22) | (go_at_call 21; (with_reducible refine (transeptref12_among.calls kj7 _ _ y187 t184 t190 _ ?side1 ?side2 A18.out).mono ?_); (case side1 => repeat (first | exact (Kd.R_reads' HO189.out).2.2 | (with_reducible refine Kd.C_alloc ?_ _) | (with_reducible refine Kd.C_drewN ?_ _) | (with_reducible refine Kd.C_drew ?_))); (case side2 => exact (Kd.R_reads' HO189.out).2.1); rintro e w' ⟨rfl, ⟨nd, rfl⟩⟩))
                all_goals (try (exfalso; omega))
                all_goals go_ret
                all_goals exact ⟨by first | rfl | (simp [errW_none, errW_some] <;> rfl) | (simp [*, errW_none, errW_some] <;> rfl) | (simp [Ext.ne_nil_empty]; done), by repeat (first | (with_reducible first | exact HB.out | apply below_alloc | apply pw_below_drewN | apply below_drew1) | exact HB.out)⟩
            · rw [if_neg c13] at H
              have c13b0 : (t181.toList == ([99, 111, 110, 116, 101, 110, 116, 45, 116, 121, 112, 101] : List UInt8)) = false := beq_eq_false_iff_ne.mpr c13
              have c13b1 : (t181.toList != ([99, 111, 110, 116, 101, 110, 116, 45, 116, 121, 112, 101] : List UInt8)) = true := bne_iff_ne.mpr c13
              by_cases c23 : t181.toList = ([114, 97, 110, 103, 101] : List UInt8)
              · rw [if_pos c23] at H
                have c23b0 : (t181.toList == ([114, 97, 110, 103, 101] : List UInt8)) = true := beq_iff_eq.mpr c23
                have c23b1 : (t181.toList != ([114, 97, 110, 103, 101] : List UInt8)) = false := bne_eq_false_iff_eq.mpr c23
                clear c23
                replace H := Option.bind_eq_some_iff.mp H
                obtain ⟨t191, A240, H⟩ := H
                replace H : (some t191) = some r := H
                have A24 := Aside0.mk A240
                clear A240
                obtain rfl := Option.some.inj H
                go_wp2_with (first | ((with_reducible refine gate_callee (f := 29) rfl ?_); refine goesL_ (some 40) rfl rfl Tryz.func29 (by kernel_rfl) rfl #[.string a1] rfl (by (try simp only [List.map_toArray, List.map_cons, List.map_nil]); first | done | rfl | (simp only [List.length_drop, List.length_take]; rfl)) ?_; (with_reducible refine (transeptref12_ranged.calls kj7 a1 t191 _ A24.out).mono ?_); rintro e w25 ⟨rfl, hb⟩; refine ⟨_, rfl, ?_⟩; have n0_ := Aside0.mk (below_step (by repeat (first | (with_reducible first | exact HB.out | apply below_alloc | apply pw_below_drewN | apply below_drew1) | exact HB.out)) hb); clear HB; have HB := n0_; clear n0_; (try clear hb); (try clear hb2); (try clear hk); (try clear hi)))
                all_goals (try (exfalso; omega))
                all_goals go_ret
                all_goals exact ⟨by first | rfl | (simp [errW_none, errW_some] <;> rfl) | (simp [*, errW_none, errW_some] <;> rfl) | (simp [Ext.ne_nil_empty]; done), by repeat (first | (with_reducible first | exact HB.out | apply below_alloc | apply pw_below_drewN | apply below_drew1) | exact HB.out)⟩
              · rw [if_neg c23] at H
                have c23b0 : (t181.toList == ([114, 97, 110, 103, 101] : List UInt8)) = false := beq_eq_false_iff_ne.mpr c23
                have c23b1 : (t181.toList != ([114, 97, 110, 103, 101] : List UInt8)) = true := bne_iff_ne.mpr c23
                obtain rfl := Option.some.inj H
                go_wp2
                all_goals (try (exfalso; omega))
                all_goals go_ret
                all_goals exact ⟨by first | rfl | (simp [errW_none, errW_some] <;> rfl) | (simp [*, errW_none, errW_some] <;> rfl) | (simp [Ext.ne_nil_empty]; done), by repeat (first | (with_reducible first | exact HB.out | apply below_alloc | apply pw_below_drewN | apply below_drew1) | exact HB.out)⟩

/-! ### transeptref12_begins: function 31 -/
/-! ### transeptref12_Never: function 11 -/
/-! ### transeptref12_Reads: function 13 -/
/-! ### transeptref12_Hidden: function 15 -/
/-! ### transeptref09_Same: function 16 -/
def transeptref09_Same.l0 : Nat → List ByteArray → List ByteArray → Int → Option (Bool)
  | 0, _, _, _ => none
  | k + 1, x0, x1, x5 => if x5 < (x0.length : Int) then (if 0 ≤ x5 then (if x5 < (x1.length : Int) then (if (rdOf ByteArray.empty x0 x5).toList = (rdOf ByteArray.empty x1 x5).toList then (transeptref09_Same.l0 k x0 x1 (wrap64 (x5 + 1))) else (some false)) else (none)) else (none)) else (some true)
def transeptref09_Same.f (k : Nat) (l0 : List ByteArray) (l1 : List ByteArray) : Option (Bool) := if (l0.length : Int) = (l1.length : Int) then (transeptref09_Same.l0 k l0 l1 0) else (some false)
set_option maxHeartbeats 8000000 in
set_option maxRecDepth 100000 in
theorem transeptref09_Same.calls (k : Nat) (A0 : Option Addr) (c0 : Nat) (l0 : List ByteArray) (A1 : Option Addr) (c1 : Nat) (l1 : List ByteArray) (r : Bool) (w : World) (hr0 : Kd.C Kd.string w A0 l0.length l0) (hc0 : l0.length ≤ c0) (hr1 : Kd.C Kd.string w A1 l1.length l1) (hc1 : l1.length ≤ c1) (h : transeptref09_Same.f k l0 l1 = some r) :
    Calls Tryz.prog 16 #[.slice A0 l0.length c0, .slice A1 l1.length c1] w fun e w' => e = .returned (.bool r) ∧ Drawn0 w w' := by
  have HR0 := Aside0.mk hr0
  have HC0 := Aside0.mk hc0
  clear hr0 hc0
  have HR1 := Aside0.mk hr1
  have HC1 := Aside0.mk hc1
  clear hr1 hc1
  have H : (if (l0.length : Int) = (l1.length : Int) then (transeptref09_Same.l0 k l0 l1 0) else (some false)) = some r := h
  clear h
  by_cases c3 : (l0.length : Int) = (l1.length : Int)
  · rw [if_pos c3] at H
    have c3b0 : ((l0.length : Int) == (l1.length : Int)) = true := beq_iff_eq.mpr c3
    have c3b1 : ((l0.length : Int) != (l1.length : Int)) = false := bne_eq_false_iff_eq.mpr c3
    have c3b2 : (l0.length == l1.length) = true := by first | simpa using c3 | (simp at c3 ⊢; omega)
    clear c3
    have H' := Aside0.mk H
    clear H
    go_enter Tryz.func16, Tryz.ntmps16
    go_wp2
    all_goals (try (exfalso; omega))
    repeat (go_quiet (fail); try go_wp2)
    go_loopg [5] k (fun kq v5 w' => ∃ (x5_1 : Int), v5 = .int .i64 x5_1 ∧ Aside0 (transeptref09_Same.l0 kq l0 l1 x5_1 = some r) ∧ Aside0 (kq ≤ k) ∧ Drawn0 w w')
    case atStart => exact ⟨(0), (by first | rfl | (simp; done) | (simp [*]; done) | (congr 1; unfold wrap64; omega) | (simp; simp only [decide_eq_false_iff_not, decide_eq_true_eq] at *; congr 2; omega)), H', ⟨Nat.le_refl _⟩, by repeat (first | exact Drawn0.refl _ | apply Drawn0.step)⟩
    case round =>
      clear H'
      try clear c1
      try clear p2
      try clear c3
      try clear c3b0
      try clear c3b1
      try clear c3b2
      obtain ⟨x5_1, rfl, HA, HK1, ⟨m1, rfl⟩⟩ := hrel
      cases gk with
      | zero => exact absurd HA.out (by simp [transeptref09_Same.l0])
      | succ k1 =>
        have H := HA.out
        clear HA
        simp only [transeptref09_Same.l0] at H
        by_cases c4 : x5_1 < (l0.length : Int)
        · rw [if_pos c4] at H
          have c4b0 : decide (x5_1 < (l0.length : Int)) = true := decide_eq_true c4
          by_cases c5 : 0 ≤ x5_1
          · rw [if_pos c5] at H
            have c5b0 : decide (0 ≤ x5_1) = true := decide_eq_true c5
            by_cases c6 : x5_1 < (l1.length : Int)
            · rw [if_pos c6] at H
              have c6b0 : decide (x5_1 < (l1.length : Int)) = true := decide_eq_true c6
              by_cases c7 : (rdOf ByteArray.empty l0 x5_1).toList = (rdOf ByteArray.empty l1 x5_1).toList
              · rw [if_pos c7] at H
                have c7b0 : ((rdOf ByteArray.empty l0 x5_1).toList == (rdOf ByteArray.empty l1 x5_1).toList) = true := beq_iff_eq.mpr c7
                have c7b1 : ((rdOf ByteArray.empty l0 x5_1).toList != (rdOf ByteArray.empty l1 x5_1).toList) = false := bne_eq_false_iff_eq.mpr c7
                clear c7
                have H' := Aside0.mk H
                clear H
                have p267 : 0 ≤ (x5_1 : Int) := of_decide_eq_true (by first | (with_reducible assumption) | assumption)
                have q267 : x5_1 < (l0.length : Int) := of_decide_eq_true (by first | (with_reducible assumption) | assumption)
                obtain ⟨ad267, e267, hx267_0⟩ := Kd.at_string HR0.out x5_1 p267 q267
                cases e267
                replace p267 := eq_true p267
                replace q267 := eq_true q267
                have p268 : 0 ≤ (x5_1 : Int) := of_decide_eq_true (by first | (with_reducible assumption) | assumption)
                have q268 : x5_1 < (l1.length : Int) := of_decide_eq_true (by first | (with_reducible assumption) | assumption)
                obtain ⟨ad268, e268, hx268_0⟩ := Kd.at_string HR1.out x5_1 p268 q268
                cases e268
                replace p268 := eq_true p268
                replace q268 := eq_true q268
                go_wp2
                all_goals (try (exfalso; omega))
                repeat (go_quiet (fail); try go_wp2)
                go_roundg k1
                case measure => have := HK1.out; omega
                case rel => exact ⟨(wrap64 (x5_1 + 1)), (by first | rfl | (simp; done) | (simp [*]; done) | (congr 1; unfold wrap64; omega) | (simp; simp only [decide_eq_false_iff_not, decide_eq_true_eq] at *; congr 2; omega)), H', ⟨by have := HK1.out; omega⟩, by repeat (first | exact Drawn0.refl _ | apply Drawn0.step)⟩
              · rw [if_neg c7] at H
                have c7b0 : ((rdOf ByteArray.empty l0 x5_1).toList == (rdOf ByteArray.empty l1 x5_1).toList) = false := beq_eq_false_iff_ne.mpr c7
                have c7b1 : ((rdOf ByteArray.empty l0 x5_1).toList != (rdOf ByteArray.empty l1 x5_1).toList) = true := bne_iff_ne.mpr c7
                obtain rfl := Option.some.inj H
                have p267 : 0 ≤ (x5_1 : Int) := of_decide_eq_true (by first | (with_reducible assumption) | assumption)
                have q267 : x5_1 < (l0.length : Int) := of_decide_eq_true (by first | (with_reducible assumption) | assumption)
                obtain ⟨ad267, e267, hx267_0⟩ := Kd.at_string HR0.out x5_1 p267 q267
                cases e267
                replace p267 := eq_true p267
                replace q267 := eq_true q267
                have p268 : 0 ≤ (x5_1 : Int) := of_decide_eq_true (by first | (with_reducible assumption) | assumption)
                have q268 : x5_1 < (l1.length : Int) := of_decide_eq_true (by first | (with_reducible assumption) | assumption)
                obtain ⟨ad268, e268, hx268_0⟩ := Kd.at_string HR1.out x5_1 p268 q268
                cases e268
                replace p268 := eq_true p268
                replace q268 := eq_true q268
                go_wp2
                all_goals (try (exfalso; omega))
                repeat (go_quiet (fail); try go_wp2)
                all_goals go_ret
                all_goals exact ⟨by first | rfl | (simp; done) | (simp [*]; done) | (simp [Ext.ne_nil_empty]; done), by repeat (first | exact Drawn0.refl _ | apply Drawn0.step)⟩
            · rw [if_neg c6] at H
              exact absurd H (by simp)
          · rw [if_neg c5] at H
            exact absurd H (by simp)
        · rw [if_neg c4] at H
          have c4b0 : decide (x5_1 < (l0.length : Int)) = false := decide_eq_false c4
          obtain rfl := Option.some.inj H
          go_wp2
          all_goals (try (exfalso; omega))
          repeat (go_quiet (fail); try go_wp2)
          all_goals go_ret
          all_goals exact ⟨by first | rfl | (simp; done) | (simp [*]; done) | (simp [Ext.ne_nil_empty]; done), by repeat (first | exact Drawn0.refl _ | apply Drawn0.step)⟩
  · rw [if_neg c3] at H
    have c3b0 : ((l0.length : Int) == (l1.length : Int)) = false := beq_eq_false_iff_ne.mpr c3
    have c3b1 : ((l0.length : Int) != (l1.length : Int)) = true := bne_iff_ne.mpr c3
    have c3b2 : (l0.length == l1.length) = false := by first | simpa using c3 | (simp at c3 ⊢; omega)
    obtain rfl := Option.some.inj H
    go_enter Tryz.func16, Tryz.ntmps16
    go_wp2
    all_goals (try (exfalso; omega))
    repeat (go_quiet (fail); try go_wp2)
    all_goals go_ret
    all_goals exact ⟨by first | rfl | (simp; done) | (simp [*]; done) | (simp [Ext.ne_nil_empty]; done), by repeat (first | exact Drawn0.refl _ | apply Drawn0.step)⟩

end Go.Proofs.YtikhboebmmmopaaGreatDoor.Fun
