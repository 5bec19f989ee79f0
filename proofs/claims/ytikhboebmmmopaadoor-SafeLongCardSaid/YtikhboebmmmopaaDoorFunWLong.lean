-- Written by xprint.py and prunelaw.py, programs of this work's, by means of the kit's print. Not trusted: Lean checks it.
import Derived.Test.YtikhboebmmmopaaDoorFun
namespace Go.Proofs.YtikhboebmmmopaaDoor.Fun
open Go.RowKit Go.Proofs.YtikhboebmmmopaaDoorW.PrintWords Go.Proofs.YtikhboebmmmopaaDoorW.PrintLast Go.Proofs.YtikhboebmmmopaaDoorW.PrintMore
attribute [local go_sem] max2_int min2_int max_two min_two max_three min_three max_four min_four   -- for this text's walks alone
set_option linter.unusedVariables false
set_option linter.unusedSimpArgs false

/-! ### transeptlaw12_SafeLong: function 8 -/
mutual
def transeptlaw12_SafeLong.l0 : Nat → ByteArray → ByteArray → Int → Bool → ByteArray → Option (Bool)
  | 0, _, _, _, _, _ => none
  | k + 1, x0, x1, x2, x7, x8 => if (x8.size : Int) < 128 then (if x8.size + 1 ≤ 9223372036854775807 then (transeptlaw12_SafeLong.l0 k x0 x1 x2 x7 (x8 ++ (⟨#[97]⟩ : ByteArray))) else (none)) else (transeptlaw12_SafeLong.l1 k x0 x1 x2 x7 x8 ([] : List (S30)) 0)
def transeptlaw12_SafeLong.l1 : Nat → ByteArray → ByteArray → Int → Bool → ByteArray → List (S30) → Int → Option (Bool)
  | 0, _, _, _, _, _, _, _ => none
  | k + 1, x0, x1, x2, x7, x8, x9, x10 => if x10 < x2 then (if x9.length < 4398046511104 then (transeptlaw12_SafeLong.l1 k x0 x1 x2 x7 x8 (x9 ++ [(⟨(⟨#[65, 99, 99, 101, 112, 116]⟩ : ByteArray), x8⟩ : S30)]) (wrap64 (x10 + 1))) else (none)) else ((safe_Unsafe.f k x9).bind fun t251 => (if x9.length < 4398046511104 then ((safe_Unsafe.f k (x9 ++ [(⟨(⟨#[97, 99, 99, 101, 112, 116]⟩ : ByteArray), (⟨#[98]⟩ : ByteArray)⟩ : S30)])).bind fun t257 => (if x7 = true then (if x8.size + 1 ≤ 9223372036854775807 then (if (x8 ++ (⟨#[98]⟩ : ByteArray)).size + x1.size ≤ 9223372036854775807 then ((Ext.safe_Header.f x0 ((x8 ++ (⟨#[98]⟩ : ByteArray)) ++ x1)).bind fun t260 => (if t260 = true then (some false) else ((Ext.safe_Header.f (⟨#[97, 99, 99, 101, 112, 116]⟩ : ByteArray) x8).bind fun t261 => (if t261 = true then (if (((t251.length : Int) == 0) == (decide (x2 ≤ 8))) = true then (some (((t257.length : Int) == 0) == (decide (x2 < 8)))) else (some false)) else (some false))))) else (none)) else (none)) else (some false))) else (none)))
end
def transeptlaw12_SafeLong.f (k : Nat) (a0 : ByteArray) (a1 : ByteArray) (a2 : Int) : Option (Bool) := (transeptlaw12_shown.f k).bind fun t247 => (if 0 ≤ (mn (a1.size : Int) 200) then (if (mn (a1.size : Int) 200) ≤ (a1.size : Int) then (transeptlaw12_SafeLong.l0 k a0 (a1.extract 0 ((mn (a1.size : Int) 200) : Int).toNat) (Go.bits .and .i64 a2 15) t247 (⟨#[]⟩ : ByteArray)) else (none)) else (none))
theorem transeptlaw12_SafeLong.mono_l : ∀ k, (∀ y0 y1 y2 y3 y4, LeO (transeptlaw12_SafeLong.l0 k y0 y1 y2 y3 y4) (transeptlaw12_SafeLong.l0 (k + 1) y0 y1 y2 y3 y4)) ∧ (∀ y0 y1 y2 y3 y4 y5 y6, LeO (transeptlaw12_SafeLong.l1 k y0 y1 y2 y3 y4 y5 y6) (transeptlaw12_SafeLong.l1 (k + 1) y0 y1 y2 y3 y4 y5 y6))
  | 0 => ⟨fun _ _ _ _ _ r h => absurd (show none = some r from h) (by simp), fun _ _ _ _ _ _ _ r h => absurd (show none = some r from h) (by simp)⟩
  | k + 1 => by
    obtain ⟨ih0, ih1⟩ := transeptlaw12_SafeLong.mono_l k
    refine ⟨?_, ?_⟩
    · intro y0 y1 y2 y3 y4
      unfold transeptlaw12_SafeLong.l0
      repeat' first
      | (with_reducible exact ih0 _ _ _ _ _)
      | (with_reducible exact ih1 _ _ _ _ _ _ _)
      | (with_reducible exact safe_Unsafe.mono _ _)
      | (with_reducible exact transeptlaw12_shown.mono _)
      | (with_reducible exact LeO.refl _)
      | (with_reducible exact LeO.none _)
      | (with_reducible refine LeO.ite ?_ ?_)
      | (with_reducible refine LeO.bind ?_ (fun _ => ?_))
      | exact ih0 _ _ _ _ _
      | exact ih1 _ _ _ _ _ _ _
      | exact safe_Unsafe.mono _ _
      | exact transeptlaw12_shown.mono _
      | exact LeO.none _
      | refine LeO.ite ?_ ?_
      | refine LeO.bind ?_ (fun _ => ?_)
    · intro y0 y1 y2 y3 y4 y5 y6
      unfold transeptlaw12_SafeLong.l1
      repeat' first
      | (with_reducible exact ih0 _ _ _ _ _)
      | (with_reducible exact ih1 _ _ _ _ _ _ _)
      | (with_reducible exact safe_Unsafe.mono _ _)
      | (with_reducible exact transeptlaw12_shown.mono _)
      | (with_reducible exact LeO.refl _)
      | (with_reducible exact LeO.none _)
      | (with_reducible refine LeO.ite ?_ ?_)
      | (with_reducible refine LeO.bind ?_ (fun _ => ?_))
      | exact ih0 _ _ _ _ _
      | exact ih1 _ _ _ _ _ _ _
      | exact safe_Unsafe.mono _ _
      | exact transeptlaw12_shown.mono _
      | exact LeO.none _
      | refine LeO.ite ?_ ?_
      | refine LeO.bind ?_ (fun _ => ?_)
theorem transeptlaw12_SafeLong.mono : ∀ a0 a1 a2 k, LeO (transeptlaw12_SafeLong.f k a0 a1 a2) (transeptlaw12_SafeLong.f (k + 1) a0 a1 a2) := by
  intro a0 a1 a2 k
  obtain ⟨ih0, ih1⟩ := transeptlaw12_SafeLong.mono_l k
  unfold transeptlaw12_SafeLong.f
  repeat' first
      | (with_reducible exact ih0 _ _ _ _ _)
      | (with_reducible exact ih1 _ _ _ _ _ _ _)
      | (with_reducible exact safe_Unsafe.mono _ _)
      | (with_reducible exact transeptlaw12_shown.mono _)
      | (with_reducible exact LeO.refl _)
      | (with_reducible exact LeO.none _)
      | (with_reducible refine LeO.ite ?_ ?_)
      | (with_reducible refine LeO.bind ?_ (fun _ => ?_))
      | exact ih0 _ _ _ _ _
      | exact ih1 _ _ _ _ _ _ _
      | exact safe_Unsafe.mono _ _
      | exact transeptlaw12_shown.mono _
      | exact LeO.none _
      | refine LeO.ite ?_ ?_
      | refine LeO.bind ?_ (fun _ => ?_)
set_option maxHeartbeats 8000000 in
set_option maxRecDepth 100000 in
theorem transeptlaw12_SafeLong.calls (k : Nat) (a0 : ByteArray) (a1 : ByteArray) (a2 : Int) (_r : Bool) (w : World) (hT : Ext.Tabs w) (h : transeptlaw12_SafeLong.f k a0 a1 a2 = some true) :
    Calls Tryd.prog 8 #[.string a0, .string a1, .int .i64 a2] w fun e w' => e = .returned (.bool true) ∧ Below w.heap.size w w' := by
  have hu30 := Tryd.underlying30
  have HB := Aside0.mk (Below.refl w.heap.size w)
  have HT := Aside0.mk hT
  clear hT
  have H : ((transeptlaw12_shown.f k).bind fun t247 => (if 0 ≤ (mn (a1.size : Int) 200) then (if (mn (a1.size : Int) 200) ≤ (a1.size : Int) then (transeptlaw12_SafeLong.l0 k a0 (a1.extract 0 ((mn (a1.size : Int) 200) : Int).toNat) (Go.bits .and .i64 a2 15) t247 (⟨#[]⟩ : ByteArray)) else (none)) else (none))) = some true := h
  clear h
  replace H := Option.bind_eq_some_iff.mp H
  obtain ⟨t247, A40, H⟩ := H
  replace H : (if 0 ≤ (mn (a1.size : Int) 200) then (if (mn (a1.size : Int) 200) ≤ (a1.size : Int) then (transeptlaw12_SafeLong.l0 k a0 (a1.extract 0 ((mn (a1.size : Int) 200) : Int).toNat) (Go.bits .and .i64 a2 15) t247 (⟨#[]⟩ : ByteArray)) else (none)) else (none)) = some true := H
  have A4 := Aside0.mk A40
  clear A40
  obtain ⟨ji5, hji5⟩ : ∃ j_ : Int, (mn (a1.size : Int) 200) = j_ := ⟨_, rfl⟩
  replace H : (if 0 ≤ (ji5) then (if (ji5) ≤ (a1.size : Int) then (transeptlaw12_SafeLong.l0 k a0 (a1.extract 0 ((ji5) : Int).toNat) (Go.bits .and .i64 a2 15) t247 (⟨#[]⟩ : ByteArray)) else (none)) else (none)) = some true := by first | (rw [hji5] at H; exact H) | (simp only [hji5] at H ⊢; exact H)
  (try rw [hji5] at A4)
  (try (have hji5h : ji5 ≤ 200 := by (rw [← hji5]; unfold mn; (repeat' split) <;> omega)))
  (try (have hji5g : ji5 ≤ 64 := by omega))
  (try (have hji5l : 0 ≤ ji5 := by (rw [← hji5]; unfold mn; (repeat' split) <;> omega)))
  (try (have hji5m : 0 ≤ ji5 := by omega))
  have hji5_ : (if 200 < (a1.size : Int) then 200 else (a1.size : Int)) = ji5 := hji5
  by_cases c6 : 0 ≤ (ji5)
  · rw [if_pos c6] at H
    have c6b0 := eq_true c6
    have c6b1 : decide (0 ≤ (ji5)) = true := decide_eq_true c6
    by_cases c7 : (ji5) ≤ (a1.size : Int)
    · rw [if_pos c7] at H
      have c7b0 := eq_true c7
      have c7b1 : decide ((ji5) ≤ (a1.size : Int)) = true := decide_eq_true c7
      have H' := Aside0.mk H
      clear H
      go_enter Tryd.func8, Tryd.ntmps8
      go_wp2_with (first | ((with_reducible refine gate_callee (f := 9) rfl ?_); refine goesL_ (some 13) rfl rfl Tryd.func9 (by kernel_rfl) rfl #[] rfl (by (try simp only [List.map_toArray, List.map_cons, List.map_nil]); first | done | rfl | (simp only [List.length_drop, List.length_take]; rfl)) ?_; (with_reducible refine (transeptlaw12_shown.calls k  t247 _ ?side1 A4.out).mono ?_); (case side1 => exact Ext.tabs_at HT.out (by repeat (first | (with_reducible first | exact HB.out | apply below_alloc | apply pw_below_drewN | apply below_drew1) | exact HB.out))); rintro e w8 ⟨rfl, hb⟩; refine ⟨_, rfl, ?_⟩; have n0_ := Aside0.mk (below_step (by repeat (first | (with_reducible first | exact HB.out | apply below_alloc | apply pw_below_drewN | apply below_drew1) | exact HB.out)) hb); clear HB; have HB := n0_; clear n0_; (try clear hb); (try clear hb2); (try clear hk); (try clear hi)))
      all_goals (try (exfalso; omega))
      go_loopg [8] k (fun kq v8 w' => ∃ (x8_1 : ByteArray), v8 = .string x8_1 ∧ Aside0 (transeptlaw12_SafeLong.l0 kq a0 (a1.extract 0 ((ji5) : Int).toNat) (Go.bits .and .i64 a2 15) t247 x8_1 = some true) ∧ Aside0 (kq ≤ k) ∧ Aside0 (Below w.heap.size w w'))
      case atStart => exact ⟨((⟨#[]⟩ : ByteArray)), (by first | rfl | (simp; done) | (simp [*]; done) | (congr 1; unfold wrap64; omega) | (simp; simp only [decide_eq_false_iff_not, decide_eq_true_eq] at *; congr 2; omega)), H', ⟨Nat.le_refl _⟩, ⟨by repeat (first | (with_reducible first | exact HB.out | apply below_alloc | apply pw_below_drewN | apply below_drew1) | exact HB.out)⟩⟩
      case round =>
        clear H'
        try clear p2
        try clear c6
        try clear c6b0
        try clear c6b1
        try clear c7
        try clear c7b0
        try clear c7b1
        try clear c8
        obtain ⟨x8_1, rfl, HA, HK1, HB⟩ := hrel
        cases gk with
        | zero => exact absurd (show none = some true from HA.out) (by simp)
        | succ k1 =>
          have H := HA.out
          clear HA
          unfold transeptlaw12_SafeLong.l0 at H
          by_cases c9 : (x8_1.size : Int) < 128
          · rw [if_pos c9] at H
            have c9b0 : decide ((x8_1.size : Int) < 128) = true := decide_eq_true c9
            have c9b1 : decide (x8_1.size < 128) = true := decide_eq_true (by omega)
            by_cases c10 : x8_1.size + 1 ≤ 9223372036854775807
            · rw [if_pos c10] at H
              have c10b0 := eq_true c10
              have c10b1 : decide (x8_1.size + 1 ≤ 9223372036854775807) = true := decide_eq_true c10
              try have c10b2 : (9223372036854775807 < x8_1.size + 1) = False := eq_false (Nat.not_lt.2 c10)
              have H' := Aside0.mk H
              clear H
              go_wp2
              all_goals (try (exfalso; omega))
              go_roundg k1
              case measure => have := HK1.out; omega
              case rel => exact ⟨(x8_1 ++ (⟨#[97]⟩ : ByteArray)), (by first | rfl | (simp; done) | (simp [*]; done) | (congr 1; unfold wrap64; omega) | (simp; simp only [decide_eq_false_iff_not, decide_eq_true_eq] at *; congr 2; omega)), H', ⟨by have := HK1.out; omega⟩, ⟨by repeat (first | (with_reducible first | exact HB.out | apply below_alloc | apply pw_below_drewN | apply below_drew1) | exact HB.out)⟩⟩
            · rw [if_neg c10] at H
              exact absurd H (by simp)
          · rw [if_neg c9] at H
            have c9b0 : decide ((x8_1.size : Int) < 128) = false := decide_eq_false c9
            have c9b1 : decide (x8_1.size < 128) = false := decide_eq_false (by omega)
            have H' := Aside0.mk H
            clear H
            go_wp2
            all_goals (try (exfalso; omega))
            go_loopg [9, 10] k1 (fun kq v9 v10 w' => ∃ (x9_2 : List (S30)) (x10_2 : Int), v10 = .int .i64 x10_2 ∧ Aside0 (transeptlaw12_SafeLong.l1 kq a0 (a1.extract 0 ((ji5) : Int).toNat) (Go.bits .and .i64 a2 15) t247 x8_1 x9_2 x10_2 = some true) ∧ Aside0 (kq ≤ k1) ∧ Aside0 (Kd.R k30 30 w' w.heap.size (fun _ => True) v9 x9_2) ∧ Aside0 (Below w.heap.size w w'))
            case atStart => exact ⟨(([] : List (S30))), (0), (by first | rfl | (simp; done) | (simp [*]; done) | (congr 1; unfold wrap64; omega) | (simp; simp only [decide_eq_false_iff_not, decide_eq_true_eq] at *; congr 2; omega)), H', ⟨Nat.le_refl _⟩, ⟨by first | exact Kd.R_nil _ _ _ _ _ | exact Kd.N_nil _ _ _ _ _ | exact Kd.V_nil _ _ _ _ _ | exact Kd.Q_nil _ _ _ _ _ | exact Kd.S_nil _ _ _ _ _⟩, ⟨by repeat (first | (with_reducible first | exact HB.out | apply below_alloc | apply pw_below_drewN | apply below_drew1) | exact HB.out)⟩⟩
            case round =>
              clear H'
              try clear c1
              try clear p2
              try clear c6
              try clear c6b0
              try clear c6b1
              try clear c7
              try clear c7b0
              try clear c7b1
              try clear c8
              try clear c9
              try clear c9b0
              try clear c9b1
              try clear c10
              try clear c10b0
              try clear c10b1
              try clear c10b2
              try clear p2
              obtain ⟨x9_2, x10_2, rfl, HA, HK2, HO_9, HB⟩ := hrel
              cases gk with
              | zero => exact absurd (show none = some true from HA.out) (by simp)
              | succ k2 =>
                have H := HA.out
                clear HA
                unfold transeptlaw12_SafeLong.l1 at H
                by_cases c11 : x10_2 < (Go.bits .and .i64 a2 15)
                · rw [if_pos c11] at H
                  have c11b0 : decide (x10_2 < (Go.bits .and .i64 a2 15)) = true := decide_eq_true c11
                  by_cases c12 : x9_2.length < 4398046511104
                  · rw [if_pos c12] at H
                    have LMc12 := Aside0.mk c12
                    obtain ⟨y248, hy248⟩ : ∃ y_ : List (S30), y_ = (x9_2 ++ [(⟨(⟨#[65, 99, 99, 101, 112, 116]⟩ : ByteArray), x8_1⟩ : S30)]) := ⟨_, rfl⟩
                    replace H : (transeptlaw12_SafeLong.l1 k2 a0 (a1.extract 0 ((ji5) : Int).toNat) (Go.bits .and .i64 a2 15) t247 x8_1 y248 (wrap64 (x10_2 + 1))) = some true := by first | (rw [hy248]; with_reducible exact H) | (have H2_ := (Option.bind_some _ _).symm.trans H; rw [hy248]; with_reducible exact H2_) | (have H2_ := (Option.bind_some _ _).symm.trans H; with_reducible exact H2_) | with_reducible exact H | (rw [hy248]; exact H) | exact H
                    have Ny248 := Aside0.mk hy248
                    clear hy248
                    have H' := Aside0.mk H
                    clear H
                    go_wp2_with (first | ((with_reducible refine gate_builtin (b := .append) (xs := #[.tmp 31, .tmp 34]) rfl ?_); (try (refine gate_guard (by rfl) ?_; dsimp only)); at_builtin; refine Kd.R_append k30 (w0 := w) w.heap.size rfl (.tmp 31) (.tmp 34) 26 30 (.agg #[(.string ⟨#[]⟩), (.string ⟨#[]⟩)]) 32 rfl Tryd.underlying26 info30 rfl (by decide) (by omega) u9 x9_2 (⟨(⟨#[65, 99, 99, 101, 112, 116]⟩ : ByteArray), x8_1⟩ : S30) [.string (⟨#[65, 99, 99, 101, 112, 116]⟩ : ByteArray), .string x8_1] (fun _ => True) (fun _ => False) rfl rfl ?aP (fun _ hk => hk.elim) ?aF ?aO ?aB ?aS ?aL ?_; (case aP => exact k30_mkM _ _ _ (⟨(⟨#[65, 99, 99, 101, 112, 116]⟩ : ByteArray), x8_1⟩ : S30)); (case aB => exact (by repeat (first | (with_reducible first | exact HB.out | apply below_alloc | apply pw_below_drewN | apply below_drew1) | exact HB.out))); (case aF => exact (fun _ _ => trivial)); (case aO => exact (by (with_reducible repeat (first | apply Kd.R_alloc | apply Kd.R_drewN | apply Kd.R_drew)); exact HO_9.out)); (case aS => exact (below_size (by repeat (first | (with_reducible first | exact HB.out | apply below_alloc | apply pw_below_drewN | apply below_drew1) | exact HB.out)))); (case aL => have := LMc12.out; omega); intro v249 w13 ho hb hg hat; rw [← Ny248.out] at ho; have n0_ := Aside0.mk (hb); have n1_ := Aside0.mk (ho); clear HB; clear HO_9; have HB := n0_; have HO250 := n1_; clear n0_ n1_; clear ho hb hg hat))
                    all_goals (try (exfalso; omega))
                    go_roundg k2
                    case measure => have := HK1.out; have := HK2.out; omega
                    case rel => exact ⟨(y248), (wrap64 (x10_2 + 1)), (by first | rfl | (simp; done) | (simp [*]; done) | (congr 1; unfold wrap64; omega) | (simp; simp only [decide_eq_false_iff_not, decide_eq_true_eq] at *; congr 2; omega)), H', ⟨by have := HK1.out; have := HK2.out; omega⟩, ⟨by (with_reducible repeat (first | apply Kd.R_alloc | apply Kd.R_drewN | apply Kd.R_drew)); exact HO250.out⟩, ⟨by repeat (first | (with_reducible first | exact HB.out | apply below_alloc | apply pw_below_drewN | apply below_drew1) | exact HB.out)⟩⟩
                  · rw [if_neg c12] at H
                    exact absurd H (by simp)
                · rw [if_neg c11] at H
                  have c11b0 : decide (x10_2 < (Go.bits .and .i64 a2 15)) = false := decide_eq_false c11
                  replace H := Option.bind_eq_some_iff.mp H
                  obtain ⟨t251, A140, H⟩ := H
                  replace H : (if x9_2.length < 4398046511104 then ((safe_Unsafe.f k2 (x9_2 ++ [(⟨(⟨#[97, 99, 99, 101, 112, 116]⟩ : ByteArray), (⟨#[98]⟩ : ByteArray)⟩ : S30)])).bind fun t257 => (if t247 = true then (if x8_1.size + 1 ≤ 9223372036854775807 then (if (x8_1 ++ (⟨#[98]⟩ : ByteArray)).size + (a1.extract 0 ((ji5) : Int).toNat).size ≤ 9223372036854775807 then ((Ext.safe_Header.f a0 ((x8_1 ++ (⟨#[98]⟩ : ByteArray)) ++ (a1.extract 0 ((ji5) : Int).toNat))).bind fun t260 => (if t260 = true then (some false) else ((Ext.safe_Header.f (⟨#[97, 99, 99, 101, 112, 116]⟩ : ByteArray) x8_1).bind fun t261 => (if t261 = true then (if (((t251.length : Int) == 0) == (decide ((Go.bits .and .i64 a2 15) ≤ 8))) = true then (some (((t257.length : Int) == 0) == (decide ((Go.bits .and .i64 a2 15) < 8)))) else (some false)) else (some false))))) else (none)) else (none)) else (some false))) else (none)) = some true := H
                  have A14 := Aside0.mk A140
                  clear A140
                  by_cases c15 : x9_2.length < 4398046511104
                  · rw [if_pos c15] at H
                    have LMc15 := Aside0.mk c15
                    obtain ⟨y254, hy254⟩ : ∃ y_ : List (S30), y_ = (x9_2 ++ [(⟨(⟨#[97, 99, 99, 101, 112, 116]⟩ : ByteArray), (⟨#[98]⟩ : ByteArray)⟩ : S30)]) := ⟨_, rfl⟩
                    replace H : ((safe_Unsafe.f k2 y254).bind fun t257 => (if t247 = true then (if x8_1.size + 1 ≤ 9223372036854775807 then (if (x8_1 ++ (⟨#[98]⟩ : ByteArray)).size + (a1.extract 0 ((ji5) : Int).toNat).size ≤ 9223372036854775807 then ((Ext.safe_Header.f a0 ((x8_1 ++ (⟨#[98]⟩ : ByteArray)) ++ (a1.extract 0 ((ji5) : Int).toNat))).bind fun t260 => (if t260 = true then (some false) else ((Ext.safe_Header.f (⟨#[97, 99, 99, 101, 112, 116]⟩ : ByteArray) x8_1).bind fun t261 => (if t261 = true then (if (((t251.length : Int) == 0) == (decide ((Go.bits .and .i64 a2 15) ≤ 8))) = true then (some (((t257.length : Int) == 0) == (decide ((Go.bits .and .i64 a2 15) < 8)))) else (some false)) else (some false))))) else (none)) else (none)) else (some false))) = some true := by first | (rw [hy254]; with_reducible exact H) | (have H2_ := (Option.bind_some _ _).symm.trans H; rw [hy254]; with_reducible exact H2_) | (have H2_ := (Option.bind_some _ _).symm.trans H; with_reducible exact H2_) | with_reducible exact H | (rw [hy254]; exact H) | exact H
                    have Ny254 := Aside0.mk hy254
                    clear hy254
                    replace H := Option.bind_eq_some_iff.mp H
                    obtain ⟨t257, A160, H⟩ := H
                    replace H : (if t247 = true then (if x8_1.size + 1 ≤ 9223372036854775807 then (if (x8_1 ++ (⟨#[98]⟩ : ByteArray)).size + (a1.extract 0 ((ji5) : Int).toNat).size ≤ 9223372036854775807 then ((Ext.safe_Header.f a0 ((x8_1 ++ (⟨#[98]⟩ : ByteArray)) ++ (a1.extract 0 ((ji5) : Int).toNat))).bind fun t260 => (if t260 = true then (some false) else ((Ext.safe_Header.f (⟨#[97, 99, 99, 101, 112, 116]⟩ : ByteArray) x8_1).bind fun t261 => (if t261 = true then (if (((t251.length : Int) == 0) == (decide ((Go.bits .and .i64 a2 15) ≤ 8))) = true then (some (((t257.length : Int) == 0) == (decide ((Go.bits .and .i64 a2 15) < 8)))) else (some false)) else (some false))))) else (none)) else (none)) else (some false)) = some true := H
                    have A16 := Aside0.mk A160
                    clear A160
                    by_cases c17 : t247 = true
                    · subst c17
                      have H1 : (if x8_1.size + 1 ≤ 9223372036854775807 then (if (x8_1 ++ (⟨#[98]⟩ : ByteArray)).size + (a1.extract 0 ((ji5) : Int).toNat).size ≤ 9223372036854775807 then ((Ext.safe_Header.f a0 ((x8_1 ++ (⟨#[98]⟩ : ByteArray)) ++ (a1.extract 0 ((ji5) : Int).toNat))).bind fun t260 => (if t260 = true then (some false) else ((Ext.safe_Header.f (⟨#[97, 99, 99, 101, 112, 116]⟩ : ByteArray) x8_1).bind fun t261 => (if t261 = true then (if (((t251.length : Int) == 0) == (decide ((Go.bits .and .i64 a2 15) ≤ 8))) = true then (some (((t257.length : Int) == 0) == (decide ((Go.bits .and .i64 a2 15) < 8)))) else (some false)) else (some false))))) else (none)) else (none)) = some true := by rw [if_pos rfl] at H; exact H
                      clear H
                      have H := H1
                      clear H1
                      by_cases c18 : x8_1.size + 1 ≤ 9223372036854775807
                      · rw [if_pos c18] at H
                        have c18b0 := eq_true c18
                        have c18b1 : decide (x8_1.size + 1 ≤ 9223372036854775807) = true := decide_eq_true c18
                        try have c18b2 : (9223372036854775807 < x8_1.size + 1) = False := eq_false (Nat.not_lt.2 c18)
                        by_cases c19 : (x8_1 ++ (⟨#[98]⟩ : ByteArray)).size + (a1.extract 0 ((ji5) : Int).toNat).size ≤ 9223372036854775807
                        · rw [if_pos c19] at H
                          (try (have c19x := c19; simp only [ByteArray.size_append, show (⟨#[98]⟩ : ByteArray).size = 1 from rfl] at c19x))
                          have c19b0 := eq_true c19
                          have c19b1 : decide ((x8_1 ++ (⟨#[98]⟩ : ByteArray)).size + (a1.extract 0 ((ji5) : Int).toNat).size ≤ 9223372036854775807) = true := decide_eq_true c19
                          try have c19b2 : (9223372036854775807 < (x8_1 ++ (⟨#[98]⟩ : ByteArray)).size + (a1.extract 0 ((ji5) : Int).toNat).size) = False := eq_false (Nat.not_lt.2 c19)
                          replace H := Option.bind_eq_some_iff.mp H
                          obtain ⟨t260, A200, H⟩ := H
                          replace H : (if t260 = true then (some false) else ((Ext.safe_Header.f (⟨#[97, 99, 99, 101, 112, 116]⟩ : ByteArray) x8_1).bind fun t261 => (if t261 = true then (if (((t251.length : Int) == 0) == (decide ((Go.bits .and .i64 a2 15) ≤ 8))) = true then (some (((t257.length : Int) == 0) == (decide ((Go.bits .and .i64 a2 15) < 8)))) else (some false)) else (some false)))) = some true := H
                          have A20 := Aside0.mk A200
                          clear A200
                          by_cases c21 : t260 = true
                          · subst c21
                            have H1 : (some false) = some true := by rw [if_pos rfl] at H; exact H
                            clear H
                            have H := H1
                            clear H1
                            exact absurd (Option.some.inj H) (by decide)
                          · replace c21 := Bool.eq_false_iff.mpr c21
                            subst c21
                            have H1 : ((Ext.safe_Header.f (⟨#[97, 99, 99, 101, 112, 116]⟩ : ByteArray) x8_1).bind fun t261 => (if t261 = true then (if (((t251.length : Int) == 0) == (decide ((Go.bits .and .i64 a2 15) ≤ 8))) = true then (some (((t257.length : Int) == 0) == (decide ((Go.bits .and .i64 a2 15) < 8)))) else (some false)) else (some false))) = some true := by rw [if_neg (show ¬ (false = true) by decide)] at H; exact H
                            clear H
                            have H := H1
                            clear H1
                            replace H := Option.bind_eq_some_iff.mp H
                            obtain ⟨t261, A280, H⟩ := H
                            replace H : (if t261 = true then (if (((t251.length : Int) == 0) == (decide ((Go.bits .and .i64 a2 15) ≤ 8))) = true then (some (((t257.length : Int) == 0) == (decide ((Go.bits .and .i64 a2 15) < 8)))) else (some false)) else (some false)) = some true := H
                            have A28 := Aside0.mk A280
                            clear A280
                            by_cases c29 : t261 = true
                            · subst c29
                              have H1 : (if (((t251.length : Int) == 0) == (decide ((Go.bits .and .i64 a2 15) ≤ 8))) = true then (some (((t257.length : Int) == 0) == (decide ((Go.bits .and .i64 a2 15) < 8)))) else (some false)) = some true := by rw [if_pos rfl] at H; exact H
                              clear H
                              have H := H1
                              clear H1
                              by_cases c30 : (((t251.length : Int) == 0) == (decide ((Go.bits .and .i64 a2 15) ≤ 8))) = true
                              · rw [if_pos c30] at H
                                have c30b0 : (((t251.length : Int) == 0) == (decide ((Go.bits .and .i64 a2 15) ≤ 8))) = true := c30
                                (try (have c30b1 : decide (((t251.length : Int) == 0) = (decide ((Go.bits .and .i64 a2 15) ≤ 8))) = true := by simpa using c30))
                                (try (have c30b2 : (((t251.length : Int) == 0) == (decide ((Go.bits .and .i64 a2 15) ≤ 8))) = true := by simpa using c30))
                                first | (revert H; simp only [Option.some.injEq, Bool.false_eq_true, false_implies]; done) | (have hv_ := Option.some.inj H)
                                all_goals obtain ⟨Ao31, co31, eo31⟩ := Kd.R_slice HO_9.out
                                all_goals subst eo31
                                all_goals go_wp2_with (first | ((with_reducible refine gate_callee (f := 16) rfl ?_); refine goesL_ (some 37) rfl rfl Tryd.func16 (by kernel_rfl) rfl #[.slice Ao31 x9_2.length co31] rfl (by (try simp only [List.map_toArray, List.map_cons, List.map_nil]); first | done | rfl | (simp only [List.length_drop, List.length_take]; rfl)) ?_; (with_reducible refine (safe_Unsafe.calls k2 _ _ x9_2 t251 _ ?side3 ?side1 ?side2 A14.out).mono ?_); (case side1 => repeat (first | exact (Kd.R_reads' HO_9.out).2.2 | (with_reducible refine Kd.C_alloc ?_ _) | (with_reducible refine Kd.C_drewN ?_ _) | (with_reducible refine Kd.C_drew ?_))); (case side2 => exact (Kd.R_reads' HO_9.out).2.1); (case side3 => exact Ext.tabs_at HT.out (by repeat (first | (with_reducible first | exact HB.out | apply below_alloc | apply pw_below_drewN | apply below_drew1) | exact HB.out))); rintro e w32 ⟨v252, rfl, ho0, hb⟩; refine ⟨_, rfl, ?_⟩; have n0_ := Aside0.mk (Kd.R_below (by (with_reducible repeat (first | apply Kd.R_alloc | apply Kd.R_drewN | apply Kd.R_drew)); exact HO_9.out) hb); have n1_ := Aside0.mk (Kd.R_lower ho0 (below_size (by repeat (first | (with_reducible first | exact HB.out | apply below_alloc | apply pw_below_drewN | apply below_drew1) | exact HB.out)))); have n2_ := Aside0.mk (below_step (by repeat (first | (with_reducible first | exact HB.out | apply below_alloc | apply pw_below_drewN | apply below_drew1) | exact HB.out)) hb); clear HO_9; clear HB; have HO_9 := n0_; have HO253 := n1_; have HB := n2_; clear n0_ n1_ n2_; (try clear hb); (try clear hb2); (try clear hk); (try clear hi); (try clear ho0)) | ((with_reducible refine gate_builtin (b := .append) (xs := #[.tmp 38, .tmp 40]) rfl ?_); (try (refine gate_guard (by rfl) ?_; dsimp only)); at_builtin; refine Kd.R_append k30 (w0 := w) w.heap.size rfl (.tmp 38) (.tmp 40) 26 30 (.agg #[(.string ⟨#[]⟩), (.string ⟨#[]⟩)]) 32 rfl Tryd.underlying26 info30 rfl (by decide) (by omega) (.slice Ao31 x9_2.length co31) x9_2 (⟨(⟨#[97, 99, 99, 101, 112, 116]⟩ : ByteArray), (⟨#[98]⟩ : ByteArray)⟩ : S30) [.string (⟨#[97, 99, 99, 101, 112, 116]⟩ : ByteArray), .string (⟨#[98]⟩ : ByteArray)] (fun _ => True) (fun _ => False) rfl rfl ?aP (fun _ hk => hk.elim) ?aF ?aO ?aB ?aS ?aL ?_; (case aP => exact k30_mkM _ _ _ (⟨(⟨#[97, 99, 99, 101, 112, 116]⟩ : ByteArray), (⟨#[98]⟩ : ByteArray)⟩ : S30)); (case aB => exact (by repeat (first | (with_reducible first | exact HB.out | apply below_alloc | apply pw_below_drewN | apply below_drew1) | exact HB.out))); (case aF => exact (fun _ _ => trivial)); (case aO => exact (by (with_reducible repeat (first | apply Kd.R_alloc | apply Kd.R_drewN | apply Kd.R_drew)); exact HO_9.out)); (case aS => exact (below_size (by repeat (first | (with_reducible first | exact HB.out | apply below_alloc | apply pw_below_drewN | apply below_drew1) | exact HB.out)))); (case aL => have := LMc15.out; omega); intro v255 w33 ho hb hg hat; rw [← Ny254.out] at ho; have n0_ := Aside0.mk (Kd.R_over' (by (with_reducible repeat (first | apply Kd.R_alloc | apply Kd.R_drewN | apply Kd.R_drew)); exact HO253.out) (Kd.R_typed (by (with_reducible repeat (first | apply Kd.R_alloc | apply Kd.R_drewN | apply Kd.R_drew)); exact HO_9.out)) (by decide) hg); have n1_ := Aside0.mk (hb); have n2_ := Aside0.mk (ho); clear HO253; clear HB; clear HO_9; have HO253 := n0_; have HB := n1_; have HO256 := n2_; clear n0_ n1_ n2_; clear ho hb hg hat; obtain ⟨Ao34, co34, eo34⟩ := Kd.R_slice HO256.out; subst eo34) | ((with_reducible refine gate_callee (f := 16) rfl ?_); refine goesL_ (some 42) rfl rfl Tryd.func16 (by kernel_rfl) rfl #[.slice Ao34 y254.length co34] rfl (by (try simp only [List.map_toArray, List.map_cons, List.map_nil]); first | done | rfl | (simp only [List.length_drop, List.length_take]; rfl)) ?_; (with_reducible refine (safe_Unsafe.calls k2 _ _ y254 t257 _ ?side3 ?side1 ?side2 A16.out).mono ?_); (case side1 => repeat (first | exact (Kd.R_reads' HO256.out).2.2 | (with_reducible refine Kd.C_alloc ?_ _) | (with_reducible refine Kd.C_drewN ?_ _) | (with_reducible refine Kd.C_drew ?_))); (case side2 => exact (Kd.R_reads' HO256.out).2.1); (case side3 => exact Ext.tabs_at HT.out (by repeat (first | (with_reducible first | exact HB.out | apply below_alloc | apply pw_below_drewN | apply below_drew1) | exact HB.out))); rintro e w35 ⟨v258, rfl, ho0, hb⟩; refine ⟨_, rfl, ?_⟩; have n0_ := Aside0.mk (Kd.R_elder' (by (with_reducible repeat (first | apply Kd.R_alloc | apply Kd.R_drewN | apply Kd.R_drew)); exact HO253.out) (Kd.R_base ho0) hb); have n1_ := Aside0.mk (Kd.R_below (by (with_reducible repeat (first | apply Kd.R_alloc | apply Kd.R_drewN | apply Kd.R_drew)); exact HO256.out) hb); have n2_ := Aside0.mk (Kd.R_lower (Kd.R_new' ho0 (Kd.R_lt (by (with_reducible repeat (first | apply Kd.R_alloc | apply Kd.R_drewN | apply Kd.R_drew)); exact HO253.out))) (below_size (by repeat (first | (with_reducible first | exact HB.out | apply below_alloc | apply pw_below_drewN | apply below_drew1) | exact HB.out)))); have n3_ := Aside0.mk (below_step (by repeat (first | (with_reducible first | exact HB.out | apply below_alloc | apply pw_below_drewN | apply below_drew1) | exact HB.out)) hb); clear HO253; clear HO256; clear HB; have HO253 := n0_; have HO256 := n1_; have HO259 := n2_; have HB := n3_; clear n0_ n1_ n2_ n3_; (try clear hb); (try clear hb2); (try clear hk); (try clear hi); (try clear ho0)) | (go_at_call 12; (with_reducible refine (Ext.safe_Header.calls a0 ((x8_1 ++ (⟨#[98]⟩ : ByteArray)) ++ (a1.extract 0 ((ji5) : Int).toNat)) false _ ?side1 A20.out).mono ?_); (case side1 => exact Ext.tabs_at HT.out (by repeat (first | (with_reducible first | exact HB.out | apply below_alloc | apply pw_below_drewN | apply below_drew1) | exact HB.out))); rintro e w36 ⟨rfl, hb⟩; have n0_ := Aside0.mk (Kd.R_below (by (with_reducible repeat (first | apply Kd.R_alloc | apply Kd.R_drewN | apply Kd.R_drew)); exact HO253.out) hb); have n1_ := Aside0.mk (Kd.R_below (by (with_reducible repeat (first | apply Kd.R_alloc | apply Kd.R_drewN | apply Kd.R_drew)); exact HO256.out) hb); have n2_ := Aside0.mk (Kd.R_below (by (with_reducible repeat (first | apply Kd.R_alloc | apply Kd.R_drewN | apply Kd.R_drew)); exact HO259.out) hb); have n3_ := Aside0.mk (below_step (by repeat (first | (with_reducible first | exact HB.out | apply below_alloc | apply pw_below_drewN | apply below_drew1) | exact HB.out)) hb); clear HO253; clear HO256; clear HO259; clear HB; have HO253 := n0_; have HO256 := n1_; have HO259 := n2_; have HB := n3_; clear n0_ n1_ n2_ n3_; (try clear hb); (try clear hb2); (try clear hk); (try clear hi)) | (go_at_call 12; (with_reducible refine (Ext.safe_Header.calls (⟨#[97, 99, 99, 101, 112, 116]⟩ : ByteArray) x8_1 true _ ?side1 A28.out).mono ?_); (case side1 => exact Ext.tabs_at HT.out (by repeat (first | (with_reducible first | exact HB.out | apply below_alloc | apply pw_below_drewN | apply below_drew1) | exact HB.out))); rintro e w37 ⟨rfl, hb⟩; have n0_ := Aside0.mk (Kd.R_below (by (with_reducible repeat (first | apply Kd.R_alloc | apply Kd.R_drewN | apply Kd.R_drew)); exact HO253.out) hb); have n1_ := Aside0.mk (Kd.R_below (by (with_reducible repeat (first | apply Kd.R_alloc | apply Kd.R_drewN | apply Kd.R_drew)); exact HO256.out) hb); have n2_ := Aside0.mk (Kd.R_below (by (with_reducible repeat (first | apply Kd.R_alloc | apply Kd.R_drewN | apply Kd.R_drew)); exact HO259.out) hb); have n3_ := Aside0.mk (below_step (by repeat (first | (with_reducible first | exact HB.out | apply below_alloc | apply pw_below_drewN | apply below_drew1) | exact HB.out)) hb); clear HO253; clear HO256; clear HO259; clear HB; have HO253 := n0_; have HO256 := n1_; have HO259 := n2_; have HB := n3_; clear n0_ n1_ n2_ n3_; (try clear hb); (try clear hb2); (try clear hk); (try clear hi); obtain ⟨Ao38, co38, eo38⟩ := Kd.R_slice HO253.out; subst eo38; obtain ⟨Ao39, co39, eo39⟩ := Kd.R_slice HO259.out; subst eo39))
                                all_goals (try (exfalso; omega))
                                all_goals go_ret
                                all_goals exact ⟨by first | rfl | (simp [errW_none, errW_some] <;> rfl) | (simp only [← hji5]; first | rfl | (simp [errW_none, errW_some] <;> rfl)) | (simp [*, errW_none, errW_some] <;> rfl) | (exfalso; simp_all; done), by repeat (first | (with_reducible first | exact HB.out | apply below_alloc | apply pw_below_drewN | apply below_drew1) | exact HB.out)⟩
                              · rw [if_neg c30] at H
                                have c30b0 : (((t251.length : Int) == 0) == (decide ((Go.bits .and .i64 a2 15) ≤ 8))) = false := by simpa using c30
                                (try (have c30b1 : decide (((t251.length : Int) == 0) = (decide ((Go.bits .and .i64 a2 15) ≤ 8))) = false := by simpa using c30))
                                (try (have c30b2 : (((t251.length : Int) == 0) == (decide ((Go.bits .and .i64 a2 15) ≤ 8))) = false := by simpa using c30))
                                (try (have c30b3 : ¬ (((t251.length : Int) == 0) = (decide ((Go.bits .and .i64 a2 15) ≤ 8))) := by simpa using c30))
                                exact absurd (Option.some.inj H) (by decide)
                            · replace c29 := Bool.eq_false_iff.mpr c29
                              subst c29
                              have H1 : (some false) = some true := by rw [if_neg (show ¬ (false = true) by decide)] at H; exact H
                              clear H
                              have H := H1
                              clear H1
                              exact absurd (Option.some.inj H) (by decide)
                        · rw [if_neg c19] at H
                          (try (have c19x := c19; simp only [ByteArray.size_append, show (⟨#[98]⟩ : ByteArray).size = 1 from rfl] at c19x))
                          exact absurd H (by simp)
                      · rw [if_neg c18] at H
                        exact absurd H (by simp)
                    · replace c17 := Bool.eq_false_iff.mpr c17
                      subst c17
                      have H1 : (some false) = some true := by rw [if_neg (show ¬ (false = true) by decide)] at H; exact H
                      clear H
                      have H := H1
                      clear H1
                      exact absurd (Option.some.inj H) (by decide)
                  · rw [if_neg c15] at H
                    exact absurd H (by simp)
    · rw [if_neg c7] at H
      exact absurd H (by simp)
  · rw [if_neg c6] at H
    exact absurd H (by simp)

end Go.Proofs.YtikhboebmmmopaaDoor.Fun
