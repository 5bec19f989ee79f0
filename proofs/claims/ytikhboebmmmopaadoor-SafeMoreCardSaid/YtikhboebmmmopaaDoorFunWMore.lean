-- Written by xprint.py and prunelaw.py, programs of this work's, by means of the kit's print. Not trusted: Lean checks it.
import Derived.Test.YtikhboebmmmopaaDoorFun
namespace Go.Proofs.YtikhboebmmmopaaDoor.Fun
open Go.RowKit Go.Proofs.YtikhboebmmmopaaDoorW.PrintWords Go.Proofs.YtikhboebmmmopaaDoorW.PrintLast Go.Proofs.YtikhboebmmmopaaDoorW.PrintMore
attribute [local go_sem] max2_int min2_int max_two min_two max_three min_three max_four min_four   -- for this text's walks alone
set_option linter.unusedVariables false
set_option linter.unusedSimpArgs false

/-! ### transeptlaw12_SafeMore: function 4 -/
mutual
def transeptlaw12_SafeMore.l0 : Nat → List (S30) → ByteArray → ByteArray → Bool → List ByteArray → List ByteArray → Int → Option (Bool)
  | 0, _, _, _, _, _, _, _ => none
  | k + 1, x0, x1, x2, x7, x8, x9, x10 => if x10 < (x8.length : Int) then (if 0 ≤ x10 then ((transeptlaw12_in.f k x9 (rdOf ByteArray.empty x8 x10)).bind fun t187 => (if t187 = true then (transeptlaw12_SafeMore.l0 k x0 x1 x2 x7 x8 x9 (wrap64 (x10 + 1))) else (some false))) else (none)) else ((Ext.safe_Header.f x1 x2).bind fun t188 => (transeptlaw12_SafeMore.l1 k x0 x1 x2 x7 x8 x9 t188 0 0))
def transeptlaw12_SafeMore.l1 : Nat → List (S30) → ByteArray → ByteArray → Bool → List ByteArray → List ByteArray → Bool → Int → Int → Option (Bool)
  | 0, _, _, _, _, _, _, _, _, _ => none
  | k + 1, x0, x1, x2, x7, x8, x9, x11, x12, x13 => if x13 < (x0.length : Int) then (if 0 ≤ x13 then (transeptlaw12_SafeMore.l1 k x0 x1 x2 x7 x8 x9 x11 (wrap64 (x12 + (((rd_T30 x0 x13).f1).size : Int))) (wrap64 (x13 + 1))) else (none)) else (if x11 = true then (if (wrap64 (x12 + (x2.size : Int))) ≤ 1024 then (if (x9.length : Int) = (x8.length : Int) then (if x7 = true then (some (decide ((x9.length : Int) ≤ (wrap64 ((x0.length : Int) + 1))))) else (some false)) else (some false)) else (if x7 = true then (some (decide ((x9.length : Int) ≤ (wrap64 ((x0.length : Int) + 1))))) else (some false))) else ((Ext.token_Lower.f x1).bind fun t190 => ((transeptlaw12_in.f k x9 t190).bind fun t191 => (if t191 = true then (if x7 = true then (some (decide ((x9.length : Int) ≤ (wrap64 ((x0.length : Int) + 1))))) else (some false)) else (some false)))))
end
def transeptlaw12_SafeMore.f (k : Nat) (l0 : List (S30)) (a1 : ByteArray) (a2 : ByteArray) : Option (Bool) := (transeptlaw12_shown.f k).bind fun t160 => ((some (([] : List (S30)) : List (S30))).bind fun y161 => (if 0 ≤ (mn (l0.length : Int) 50) then (if (mn (l0.length : Int) 50) ≤ (l0.length : Int) then ((some (l0.take ((mn (l0.length : Int) 50) : Int).toNat : List (S30))).bind fun y164 => (if y161.length + y164.length < 4398046511104 then ((some (y161 ++ y164 : List (S30))).bind fun y168 => ((safe_Unsafe.f k y168).bind fun t171 => ((some (([] : List (S30)) : List (S30))).bind fun y174 => (if y174.length + y168.length < 4398046511104 then ((some (y174 ++ y168 : List (S30))).bind fun y177 => (if y177.length < 4398046511104 then ((safe_Unsafe.f k (y177 ++ [(⟨a1, a2⟩ : S30)])).bind fun t183 => (transeptlaw12_SafeMore.l0 k y168 a1 a2 t160 t171 t183 0)) else (none))) else (none))))) else (none))) else (none)) else (none)))
theorem transeptlaw12_SafeMore.mono_l : ∀ k, (∀ y0 y1 y2 y3 y4 y5 y6, LeO (transeptlaw12_SafeMore.l0 k y0 y1 y2 y3 y4 y5 y6) (transeptlaw12_SafeMore.l0 (k + 1) y0 y1 y2 y3 y4 y5 y6)) ∧ (∀ y0 y1 y2 y3 y4 y5 y6 y7 y8, LeO (transeptlaw12_SafeMore.l1 k y0 y1 y2 y3 y4 y5 y6 y7 y8) (transeptlaw12_SafeMore.l1 (k + 1) y0 y1 y2 y3 y4 y5 y6 y7 y8))
  | 0 => ⟨fun _ _ _ _ _ _ _ r h => by simp [transeptlaw12_SafeMore.l0] at h, fun _ _ _ _ _ _ _ _ _ r h => by simp [transeptlaw12_SafeMore.l1] at h⟩
  | k + 1 => by
    obtain ⟨ih0, ih1⟩ := transeptlaw12_SafeMore.mono_l k
    refine ⟨?_, ?_⟩
    · intro y0 y1 y2 y3 y4 y5 y6
      unfold transeptlaw12_SafeMore.l0
      repeat' first
      | (with_reducible exact ih0 _ _ _ _ _ _ _)
      | (with_reducible exact ih1 _ _ _ _ _ _ _ _ _)
      | (with_reducible exact safe_Unsafe.mono _ _)
      | (with_reducible exact transeptlaw12_in.mono _ _ _)
      | (with_reducible exact transeptlaw12_shown.mono _)
      | (with_reducible exact LeO.refl _)
      | (with_reducible exact LeO.none _)
      | (with_reducible refine LeO.ite ?_ ?_)
      | (with_reducible refine LeO.bind ?_ (fun _ => ?_))
      | exact ih0 _ _ _ _ _ _ _
      | exact ih1 _ _ _ _ _ _ _ _ _
      | exact safe_Unsafe.mono _ _
      | exact transeptlaw12_in.mono _ _ _
      | exact transeptlaw12_shown.mono _
      | exact LeO.none _
      | refine LeO.ite ?_ ?_
      | refine LeO.bind ?_ (fun _ => ?_)
    · intro y0 y1 y2 y3 y4 y5 y6 y7 y8
      unfold transeptlaw12_SafeMore.l1
      repeat' first
      | (with_reducible exact ih0 _ _ _ _ _ _ _)
      | (with_reducible exact ih1 _ _ _ _ _ _ _ _ _)
      | (with_reducible exact safe_Unsafe.mono _ _)
      | (with_reducible exact transeptlaw12_in.mono _ _ _)
      | (with_reducible exact transeptlaw12_shown.mono _)
      | (with_reducible exact LeO.refl _)
      | (with_reducible exact LeO.none _)
      | (with_reducible refine LeO.ite ?_ ?_)
      | (with_reducible refine LeO.bind ?_ (fun _ => ?_))
      | exact ih0 _ _ _ _ _ _ _
      | exact ih1 _ _ _ _ _ _ _ _ _
      | exact safe_Unsafe.mono _ _
      | exact transeptlaw12_in.mono _ _ _
      | exact transeptlaw12_shown.mono _
      | exact LeO.none _
      | refine LeO.ite ?_ ?_
      | refine LeO.bind ?_ (fun _ => ?_)
theorem transeptlaw12_SafeMore.mono : ∀ a0 a1 a2 k, LeO (transeptlaw12_SafeMore.f k a0 a1 a2) (transeptlaw12_SafeMore.f (k + 1) a0 a1 a2) := by
  intro a0 a1 a2 k
  obtain ⟨ih0, ih1⟩ := transeptlaw12_SafeMore.mono_l k
  unfold transeptlaw12_SafeMore.f
  repeat' first
      | (with_reducible exact ih0 _ _ _ _ _ _ _)
      | (with_reducible exact ih1 _ _ _ _ _ _ _ _ _)
      | (with_reducible exact safe_Unsafe.mono _ _)
      | (with_reducible exact transeptlaw12_in.mono _ _ _)
      | (with_reducible exact transeptlaw12_shown.mono _)
      | (with_reducible exact LeO.refl _)
      | (with_reducible exact LeO.none _)
      | (with_reducible refine LeO.ite ?_ ?_)
      | (with_reducible refine LeO.bind ?_ (fun _ => ?_))
      | exact ih0 _ _ _ _ _ _ _
      | exact ih1 _ _ _ _ _ _ _ _ _
      | exact safe_Unsafe.mono _ _
      | exact transeptlaw12_in.mono _ _ _
      | exact transeptlaw12_shown.mono _
      | exact LeO.none _
      | refine LeO.ite ?_ ?_
      | refine LeO.bind ?_ (fun _ => ?_)
set_option maxHeartbeats 8000000 in
set_option maxRecDepth 100000 in
theorem transeptlaw12_SafeMore.calls (k : Nat) (A0 : Option Addr) (c0 : Nat) (l0 : List (S30)) (a1 : ByteArray) (a2 : ByteArray) (_r : Bool) (w : World) (hT : Ext.Tabs w) (hr0 : Kd.C k30 w A0 l0.length l0) (hc0 : l0.length ≤ c0) (h : transeptlaw12_SafeMore.f k l0 a1 a2 = some true) :
    Calls Tryd.prog 4 #[.slice A0 l0.length c0, .string a1, .string a2] w fun e w' => e = .returned (.bool true) ∧ Below w.heap.size w w' := by
  have hu30 := Tryd.underlying30
  have HR0 := Aside0.mk hr0
  have HC0 := Aside0.mk hc0
  clear hr0 hc0
  have HB := Aside0.mk (Below.refl w.heap.size w)
  have HT := Aside0.mk hT
  clear hT
  have H : ((transeptlaw12_shown.f k).bind fun t160 => ((some (([] : List (S30)) : List (S30))).bind fun y161 => (if 0 ≤ (mn (l0.length : Int) 50) then (if (mn (l0.length : Int) 50) ≤ (l0.length : Int) then ((some (l0.take ((mn (l0.length : Int) 50) : Int).toNat : List (S30))).bind fun y164 => (if y161.length + y164.length < 4398046511104 then ((some (y161 ++ y164 : List (S30))).bind fun y168 => ((safe_Unsafe.f k y168).bind fun t171 => ((some (([] : List (S30)) : List (S30))).bind fun y174 => (if y174.length + y168.length < 4398046511104 then ((some (y174 ++ y168 : List (S30))).bind fun y177 => (if y177.length < 4398046511104 then ((safe_Unsafe.f k (y177 ++ [(⟨a1, a2⟩ : S30)])).bind fun t183 => (transeptlaw12_SafeMore.l0 k y168 a1 a2 t160 t171 t183 0)) else (none))) else (none))))) else (none))) else (none)) else (none)))) = some true := h
  clear h
  replace H := Option.bind_eq_some_iff.mp H
  obtain ⟨t160, A40, H⟩ := H
  replace H : ((some (([] : List (S30)) : List (S30))).bind fun y161 => (if 0 ≤ (mn (l0.length : Int) 50) then (if (mn (l0.length : Int) 50) ≤ (l0.length : Int) then ((some (l0.take ((mn (l0.length : Int) 50) : Int).toNat : List (S30))).bind fun y164 => (if y161.length + y164.length < 4398046511104 then ((some (y161 ++ y164 : List (S30))).bind fun y168 => ((safe_Unsafe.f k y168).bind fun t171 => ((some (([] : List (S30)) : List (S30))).bind fun y174 => (if y174.length + y168.length < 4398046511104 then ((some (y174 ++ y168 : List (S30))).bind fun y177 => (if y177.length < 4398046511104 then ((safe_Unsafe.f k (y177 ++ [(⟨a1, a2⟩ : S30)])).bind fun t183 => (transeptlaw12_SafeMore.l0 k y168 a1 a2 t160 t171 t183 0)) else (none))) else (none))))) else (none))) else (none)) else (none))) = some true := H
  have A4 := Aside0.mk A40
  clear A40
  obtain ⟨y161, hy161⟩ : ∃ y_ : List (S30), y_ = (([] : List (S30))) := ⟨_, rfl⟩
  replace H : (if 0 ≤ (mn (l0.length : Int) 50) then (if (mn (l0.length : Int) 50) ≤ (l0.length : Int) then ((some (l0.take ((mn (l0.length : Int) 50) : Int).toNat : List (S30))).bind fun y164 => (if y161.length + y164.length < 4398046511104 then ((some (y161 ++ y164 : List (S30))).bind fun y168 => ((safe_Unsafe.f k y168).bind fun t171 => ((some (([] : List (S30)) : List (S30))).bind fun y174 => (if y174.length + y168.length < 4398046511104 then ((some (y174 ++ y168 : List (S30))).bind fun y177 => (if y177.length < 4398046511104 then ((safe_Unsafe.f k (y177 ++ [(⟨a1, a2⟩ : S30)])).bind fun t183 => (transeptlaw12_SafeMore.l0 k y168 a1 a2 t160 t171 t183 0)) else (none))) else (none))))) else (none))) else (none)) else (none)) = some true := by first | (rw [hy161]; with_reducible exact H) | (have H2_ := (Option.bind_some _ _).symm.trans H; rw [hy161]; with_reducible exact H2_) | (have H2_ := (Option.bind_some _ _).symm.trans H; with_reducible exact H2_) | with_reducible exact H | (rw [hy161]; exact H) | exact H
  have Ny161 := Aside0.mk hy161
  clear hy161
  obtain ⟨ji5, hji5⟩ : ∃ j_ : Int, (mn (l0.length : Int) 50) = j_ := ⟨_, rfl⟩
  replace H : (if 0 ≤ (ji5) then (if (ji5) ≤ (l0.length : Int) then ((some (l0.take ((ji5) : Int).toNat : List (S30))).bind fun y164 => (if y161.length + y164.length < 4398046511104 then ((some (y161 ++ y164 : List (S30))).bind fun y168 => ((safe_Unsafe.f k y168).bind fun t171 => ((some (([] : List (S30)) : List (S30))).bind fun y174 => (if y174.length + y168.length < 4398046511104 then ((some (y174 ++ y168 : List (S30))).bind fun y177 => (if y177.length < 4398046511104 then ((safe_Unsafe.f k (y177 ++ [(⟨a1, a2⟩ : S30)])).bind fun t183 => (transeptlaw12_SafeMore.l0 k y168 a1 a2 t160 t171 t183 0)) else (none))) else (none))))) else (none))) else (none)) else (none)) = some true := by first | (rw [hji5] at H; exact H) | (simp only [hji5] at H ⊢; exact H)
  (try rw [hji5] at A4)
  (try (have hji5h : ji5 ≤ 50 := by (rw [← hji5]; unfold mn; (repeat' split) <;> omega)))
  (try (have hji5g : ji5 ≤ 64 := by omega))
  (try (have hji5l : 0 ≤ ji5 := by (rw [← hji5]; unfold mn; (repeat' split) <;> omega)))
  (try (have hji5m : 0 ≤ ji5 := by omega))
  have hji5_ : (if 50 < (l0.length : Int) then 50 else (l0.length : Int)) = ji5 := hji5
  by_cases c6 : 0 ≤ (ji5)
  · rw [if_pos c6] at H
    have c6b0 := eq_true c6
    have c6b1 : decide (0 ≤ (ji5)) = true := decide_eq_true c6
    by_cases c7 : (ji5) ≤ (l0.length : Int)
    · rw [if_pos c7] at H
      have c7b0 := eq_true c7
      have c7b1 : decide ((ji5) ≤ (l0.length : Int)) = true := decide_eq_true c7
      obtain ⟨y164, hy164⟩ : ∃ y_ : List (S30), y_ = (l0.take ((ji5) : Int).toNat) := ⟨_, rfl⟩
      replace H : (if y161.length + y164.length < 4398046511104 then ((some (y161 ++ y164 : List (S30))).bind fun y168 => ((safe_Unsafe.f k y168).bind fun t171 => ((some (([] : List (S30)) : List (S30))).bind fun y174 => (if y174.length + y168.length < 4398046511104 then ((some (y174 ++ y168 : List (S30))).bind fun y177 => (if y177.length < 4398046511104 then ((safe_Unsafe.f k (y177 ++ [(⟨a1, a2⟩ : S30)])).bind fun t183 => (transeptlaw12_SafeMore.l0 k y168 a1 a2 t160 t171 t183 0)) else (none))) else (none))))) else (none)) = some true := by first | (rw [hy164]; with_reducible exact H) | (have H2_ := (Option.bind_some _ _).symm.trans H; rw [hy164]; with_reducible exact H2_) | (have H2_ := (Option.bind_some _ _).symm.trans H; with_reducible exact H2_) | with_reducible exact H | (rw [hy164]; exact H) | exact H
      have Ny164 := Aside0.mk hy164
      clear hy164
      by_cases c8 : y161.length + y164.length < 4398046511104
      · rw [if_pos c8] at H
        have LMc8 := Aside0.mk c8
        obtain ⟨y168, hy168⟩ : ∃ y_ : List (S30), y_ = (y161 ++ y164) := ⟨_, rfl⟩
        replace H : ((safe_Unsafe.f k y168).bind fun t171 => ((some (([] : List (S30)) : List (S30))).bind fun y174 => (if y174.length + y168.length < 4398046511104 then ((some (y174 ++ y168 : List (S30))).bind fun y177 => (if y177.length < 4398046511104 then ((safe_Unsafe.f k (y177 ++ [(⟨a1, a2⟩ : S30)])).bind fun t183 => (transeptlaw12_SafeMore.l0 k y168 a1 a2 t160 t171 t183 0)) else (none))) else (none)))) = some true := by first | (rw [hy168]; with_reducible exact H) | (have H2_ := (Option.bind_some _ _).symm.trans H; rw [hy168]; with_reducible exact H2_) | (have H2_ := (Option.bind_some _ _).symm.trans H; with_reducible exact H2_) | with_reducible exact H | (rw [hy168]; exact H) | exact H
        have Ny168 := Aside0.mk hy168
        clear hy168
        replace H := Option.bind_eq_some_iff.mp H
        obtain ⟨t171, A90, H⟩ := H
        replace H : ((some (([] : List (S30)) : List (S30))).bind fun y174 => (if y174.length + y168.length < 4398046511104 then ((some (y174 ++ y168 : List (S30))).bind fun y177 => (if y177.length < 4398046511104 then ((safe_Unsafe.f k (y177 ++ [(⟨a1, a2⟩ : S30)])).bind fun t183 => (transeptlaw12_SafeMore.l0 k y168 a1 a2 t160 t171 t183 0)) else (none))) else (none))) = some true := H
        have A9 := Aside0.mk A90
        clear A90
        obtain ⟨y174, hy174⟩ : ∃ y_ : List (S30), y_ = (([] : List (S30))) := ⟨_, rfl⟩
        replace H : (if y174.length + y168.length < 4398046511104 then ((some (y174 ++ y168 : List (S30))).bind fun y177 => (if y177.length < 4398046511104 then ((safe_Unsafe.f k (y177 ++ [(⟨a1, a2⟩ : S30)])).bind fun t183 => (transeptlaw12_SafeMore.l0 k y168 a1 a2 t160 t171 t183 0)) else (none))) else (none)) = some true := by first | (rw [hy174]; with_reducible exact H) | (have H2_ := (Option.bind_some _ _).symm.trans H; rw [hy174]; with_reducible exact H2_) | (have H2_ := (Option.bind_some _ _).symm.trans H; with_reducible exact H2_) | with_reducible exact H | (rw [hy174]; exact H) | exact H
        have Ny174 := Aside0.mk hy174
        clear hy174
        by_cases c10 : y174.length + y168.length < 4398046511104
        · rw [if_pos c10] at H
          have LMc10 := Aside0.mk c10
          obtain ⟨y177, hy177⟩ : ∃ y_ : List (S30), y_ = (y174 ++ y168) := ⟨_, rfl⟩
          replace H : (if y177.length < 4398046511104 then ((safe_Unsafe.f k (y177 ++ [(⟨a1, a2⟩ : S30)])).bind fun t183 => (transeptlaw12_SafeMore.l0 k y168 a1 a2 t160 t171 t183 0)) else (none)) = some true := by first | (rw [hy177]; with_reducible exact H) | (have H2_ := (Option.bind_some _ _).symm.trans H; rw [hy177]; with_reducible exact H2_) | (have H2_ := (Option.bind_some _ _).symm.trans H; with_reducible exact H2_) | with_reducible exact H | (rw [hy177]; exact H) | exact H
          have Ny177 := Aside0.mk hy177
          clear hy177
          by_cases c11 : y177.length < 4398046511104
          · rw [if_pos c11] at H
            have LMc11 := Aside0.mk c11
            obtain ⟨y180, hy180⟩ : ∃ y_ : List (S30), y_ = (y177 ++ [(⟨a1, a2⟩ : S30)]) := ⟨_, rfl⟩
            replace H : ((safe_Unsafe.f k y180).bind fun t183 => (transeptlaw12_SafeMore.l0 k y168 a1 a2 t160 t171 t183 0)) = some true := by first | (rw [hy180]; with_reducible exact H) | (have H2_ := (Option.bind_some _ _).symm.trans H; rw [hy180]; with_reducible exact H2_) | (have H2_ := (Option.bind_some _ _).symm.trans H; with_reducible exact H2_) | with_reducible exact H | (rw [hy180]; exact H) | exact H
            have Ny180 := Aside0.mk hy180
            clear hy180
            replace H := Option.bind_eq_some_iff.mp H
            obtain ⟨t183, A120, H⟩ := H
            replace H : (transeptlaw12_SafeMore.l0 k y168 a1 a2 t160 t171 t183 0) = some true := H
            have A12 := Aside0.mk A120
            clear A120
            have H' := Aside0.mk H
            clear H
            go_enter Tryd.func4, Tryd.ntmps4
            go_wp2_with (first | ((with_reducible refine gate_callee (f := 9) rfl ?_); refine goesL_ (some 14) rfl rfl Tryd.func9 (by kernel_rfl) rfl #[] rfl (by (try simp only [List.map_toArray, List.map_cons, List.map_nil]); first | done | rfl | (simp only [List.length_drop, List.length_take]; rfl)) ?_; (with_reducible refine (transeptlaw12_shown.calls k  t160 _ ?side1 A4.out).mono ?_); (case side1 => exact Ext.tabs_at HT.out (by repeat (first | (with_reducible first | exact HB.out | apply below_alloc | apply pw_below_drewN | apply below_drew1) | exact HB.out))); rintro e w13 ⟨rfl, hb⟩; refine ⟨_, rfl, ?_⟩; have n0_ := Aside0.mk (below_step (by repeat (first | (with_reducible first | exact HB.out | apply below_alloc | apply pw_below_drewN | apply below_drew1) | exact HB.out)) hb); clear HB; have HB := n0_; clear n0_; (try clear hb); (try clear hb2); (try clear hk); (try clear hi)) | ((with_reducible refine gate_dst (N := 15) rfl ?_); (try (refine gate_guard (by rfl) ?_; dsimp only)); refine Kd.R_lit k30 _ 30 ?hg (N := 15) ?hd (xs := ([] : List (S30))) (inner := []) (ok := fun _ => True) (okp := fun _ => True) ?hr ?hp (fun _ hk => hk) trivial (Below.refl _ _) (Nat.le_refl _) (by simp) ?_; (case hd => rfl); (case hg => rfl); (case hr => first | (go_simp; done) | (go_simp; rfl)); (case hp => exact (Reps.none _ _)); intro v162 w14 ho15 hb hg_ hnew_; clear hg_ hnew_; (first | rw [← Ny161.out] at ho15 | (simp only [Int.reduceToNat] at ho15; rw [← Ny161.out] at ho15)); have n0_ := Aside0.mk (Kd.R_lower ho15 (below_size (by repeat (first | (with_reducible first | exact HB.out | apply below_alloc | apply pw_below_drewN | apply below_drew1) | exact HB.out)))); have n1_ := Aside0.mk (below_step (by repeat (first | (with_reducible first | exact HB.out | apply below_alloc | apply pw_below_drewN | apply below_drew1) | exact HB.out)) hb); clear HB; have HO163 := n0_; have HB := n1_; clear n0_ n1_; clear hb ho15; have q16 : ((ji5) : Int) ≤ ((l0.length : Int) : Int) := of_decide_eq_true (by first | (with_reducible assumption) | assumption); obtain ⟨i016, hi016, _, hsz16, _⟩ := info_parts info30; have hroom16 : l0.length ≤ c0 := HC0.out; have hC16 : Kd.C k30 _ A0 l0.length l0 := HR0.out; have hcut16 := cut_to (P := Tryd.prog) 26 30 .i64 Tryd.underlying26 hi016 A0 l0.length c0 (ji5) (of_decide_eq_true (by first | (with_reducible assumption) | assumption)) q16 hroom16; have hr16 := Kd.C_take (m := ((ji5) : Int).toNat) hC16 (by omega); have hy16 : y164.length = ((ji5) : Int).toNat := (by rw [Ny164.out, List.length_take]; omega); rw [← Ny164.out] at hr16; rw [← hy16] at hcut16; have HR167 := Aside0.mk hr16; have HC167 := Aside0.mk (show y164.length ≤ c0 from by omega); clear hr16 hC16 hroom16 hi016 hsz16; have KY16 := Aside0.mk hy16; clear hy16; replace q16 := eq_true q16) | ((with_reducible refine gate_builtin (b := .append) (xs := #[.tmp 15, .tmp 20]) rfl ?_); (try (refine gate_guard (by rfl) ?_; dsimp only)); at_builtin; refine Kd.R_append_rows k30 (w0 := w) w.heap.size rfl (.tmp 15) (.tmp 20) 26 30 (.agg #[(.string ⟨#[]⟩), (.string ⟨#[]⟩)]) 32 rfl Tryd.underlying26 info30 rfl (by decide) (by omega) v162 y161 y164 _ _ _ (fun _ => True) (fun _ => False) rfl rfl ?aO ?aR (fun _ _ h => h) (fun _ h => h.elim) ?aF ?aB ?aS ?aL ?_; (case aR => repeat (first | exact (Kd.C_below HR167.out HB.out) | (with_reducible refine Kd.C_alloc ?_ _) | (with_reducible refine Kd.C_drewN ?_ _) | (with_reducible refine Kd.C_drew ?_))); (case aB => exact (by repeat (first | (with_reducible first | exact HB.out | apply below_alloc | apply pw_below_drewN | apply below_drew1) | exact HB.out))); (case aF => exact (fun _ _ => trivial)); (case aO => exact (by (with_reducible repeat (first | apply Kd.R_alloc | apply Kd.R_drewN | apply Kd.R_drew)); exact HO163.out)); (case aS => exact (below_size (by repeat (first | (with_reducible first | exact HB.out | apply below_alloc | apply pw_below_drewN | apply below_drew1) | exact HB.out)))); (case aL => have := LMc8.out; omega); intro v169 w17 ho hb hg hat; rw [← Ny168.out] at ho; have n0_ := Aside0.mk (hb); have n1_ := Aside0.mk (ho); clear HB; clear HO163; have HB := n0_; have HO170 := n1_; clear n0_ n1_; clear ho hb hg hat; obtain ⟨Ao18, co18, eo18⟩ := Kd.R_slice HO170.out; subst eo18) | ((with_reducible refine gate_callee (f := 16) rfl ?_); refine goesL_ (some 23) rfl rfl Tryd.func16 (by kernel_rfl) rfl #[.slice Ao18 y168.length co18] rfl (by (try simp only [List.map_toArray, List.map_cons, List.map_nil]); first | done | rfl | (simp only [List.length_drop, List.length_take]; rfl)) ?_; (with_reducible refine (safe_Unsafe.calls k _ _ y168 t171 _ ?side3 ?side1 ?side2 A9.out).mono ?_); (case side1 => repeat (first | exact (Kd.R_reads' HO170.out).2.2 | (with_reducible refine Kd.C_alloc ?_ _) | (with_reducible refine Kd.C_drewN ?_ _) | (with_reducible refine Kd.C_drew ?_))); (case side2 => exact (Kd.R_reads' HO170.out).2.1); (case side3 => exact Ext.tabs_at HT.out (by repeat (first | (with_reducible first | exact HB.out | apply below_alloc | apply pw_below_drewN | apply below_drew1) | exact HB.out))); rintro e w19 ⟨v172, rfl, ho0, hb⟩; refine ⟨_, rfl, ?_⟩; have n0_ := Aside0.mk (Kd.R_below (by (with_reducible repeat (first | apply Kd.R_alloc | apply Kd.R_drewN | apply Kd.R_drew)); exact HO170.out) hb); have n1_ := Aside0.mk (Kd.R_lower ho0 (below_size (by repeat (first | (with_reducible first | exact HB.out | apply below_alloc | apply pw_below_drewN | apply below_drew1) | exact HB.out)))); have n2_ := Aside0.mk (below_step (by repeat (first | (with_reducible first | exact HB.out | apply below_alloc | apply pw_below_drewN | apply below_drew1) | exact HB.out)) hb); clear HO170; clear HB; have HO170 := n0_; have HO173 := n1_; have HB := n2_; clear n0_ n1_ n2_; (try clear hb); (try clear hb2); (try clear hk); (try clear hi); (try clear ho0)) | ((with_reducible refine gate_dst (N := 24) rfl ?_); (try (refine gate_guard (by rfl) ?_; dsimp only)); refine Kd.R_lit k30 _ 30 ?hg (N := 24) ?hd (xs := ([] : List (S30))) (inner := []) (ok := fun _ => True) (okp := fun _ => True) ?hr ?hp (fun _ hk => hk) trivial (Below.refl _ _) (Nat.le_refl _) (by simp) ?_; (case hd => rfl); (case hg => rfl); (case hr => first | (go_simp; done) | (go_simp; rfl)); (case hp => exact (Reps.none _ _)); intro v175 w20 ho21 hb hg_ hnew_; clear hg_ hnew_; (first | rw [← Ny174.out] at ho21 | (simp only [Int.reduceToNat] at ho21; rw [← Ny174.out] at ho21)); have n0_ := Aside0.mk (Kd.R_elder' (by (with_reducible repeat (first | apply Kd.R_alloc | apply Kd.R_drewN | apply Kd.R_drew)); exact HO170.out) (Kd.R_base ho21) hb); have n1_ := Aside0.mk (Kd.R_below (by (with_reducible repeat (first | apply Kd.R_alloc | apply Kd.R_drewN | apply Kd.R_drew)); exact HO173.out) hb); have n2_ := Aside0.mk (Kd.R_lower (Kd.R_new' ho21 (Kd.R_lt (by (with_reducible repeat (first | apply Kd.R_alloc | apply Kd.R_drewN | apply Kd.R_drew)); exact HO170.out))) (below_size (by repeat (first | (with_reducible first | exact HB.out | apply below_alloc | apply pw_below_drewN | apply below_drew1) | exact HB.out)))); have n3_ := Aside0.mk (below_step (by repeat (first | (with_reducible first | exact HB.out | apply below_alloc | apply pw_below_drewN | apply below_drew1) | exact HB.out)) hb); clear HO170; clear HO173; clear HB; have HO170 := n0_; have HO173 := n1_; have HO176 := n2_; have HB := n3_; clear n0_ n1_ n2_ n3_; clear hb ho21) | ((with_reducible refine gate_builtin (b := .append) (xs := #[.tmp 24, .tmp 25]) rfl ?_); (try (refine gate_guard (by rfl) ?_; dsimp only)); at_builtin; refine Kd.R_append_rows k30 (w0 := w) w.heap.size rfl (.tmp 24) (.tmp 25) 26 30 (.agg #[(.string ⟨#[]⟩), (.string ⟨#[]⟩)]) 32 rfl Tryd.underlying26 info30 rfl (by decide) (by omega) v175 y174 y168 _ _ _ (fun k_ => some k_ ≠ (.slice Ao18 y168.length co18 : Value).ownBlock) (fun _ => False) rfl rfl ?aO ?aR (fun _ _ h => h) (fun _ h => h.elim) ?aF ?aB ?aS ?aL ?_; (case aR => repeat (first | exact (Kd.R_reads' HO170.out).2.2 | (with_reducible refine Kd.C_alloc ?_ _) | (with_reducible refine Kd.C_drewN ?_ _) | (with_reducible refine Kd.C_drew ?_))); (case aB => exact (by repeat (first | (with_reducible first | exact HB.out | apply below_alloc | apply pw_below_drewN | apply below_drew1) | exact HB.out))); (case aF => exact (fun k_ hk => Kd.fresh' (Kd.R_lt (by (with_reducible repeat (first | apply Kd.R_alloc | apply Kd.R_drewN | apply Kd.R_drew)); exact HO170.out)) k_ hk)); (case aO => exact (by (with_reducible repeat (first | apply Kd.R_alloc | apply Kd.R_drewN | apply Kd.R_drew)); exact Kd.R_mono HO176.out (fun _ hk => hk.2))); (case aS => exact (below_size (by repeat (first | (with_reducible first | exact HB.out | apply below_alloc | apply pw_below_drewN | apply below_drew1) | exact HB.out)))); (case aL => have := LMc10.out; omega); intro v178 w22 ho hb hg hat; rw [← Ny177.out] at ho; have n0_ := Aside0.mk (Kd.R_after (ok := (fun _ => True)) (by (with_reducible repeat (first | apply Kd.R_alloc | apply Kd.R_drewN | apply Kd.R_drew)); exact HO170.out) hg hat); have n1_ := Aside0.mk (Kd.R_over' (by (with_reducible repeat (first | apply Kd.R_alloc | apply Kd.R_drewN | apply Kd.R_drew)); exact HO173.out) (Kd.R_typed (by (with_reducible repeat (first | apply Kd.R_alloc | apply Kd.R_drewN | apply Kd.R_drew)); exact HO176.out)) (by decide) hg); have n2_ := Aside0.mk (hb); have n3_ := Aside0.mk (ho); clear HO170; clear HO173; clear HB; clear HO176; have HO170 := n0_; have HO173 := n1_; have HB := n2_; have HO179 := n3_; clear n0_ n1_ n2_ n3_; clear ho hb hg hat) | ((with_reducible refine gate_builtin (b := .append) (xs := #[.tmp 26, .tmp 30]) rfl ?_); (try (refine gate_guard (by rfl) ?_; dsimp only)); at_builtin; refine Kd.R_append k30 (w0 := w) w.heap.size rfl (.tmp 26) (.tmp 30) 26 30 (.agg #[(.string ⟨#[]⟩), (.string ⟨#[]⟩)]) 32 rfl Tryd.underlying26 info30 rfl (by decide) (by omega) v178 y177 (⟨a1, a2⟩ : S30) [.string a1, .string a2] (fun k_ => some k_ ≠ (.slice Ao18 y168.length co18 : Value).ownBlock) (fun _ => False) rfl rfl ?aP (fun _ hk => hk.elim) ?aF ?aO ?aB ?aS ?aL ?_; (case aP => exact k30_mkM _ _ _ (⟨a1, a2⟩ : S30)); (case aB => exact (by repeat (first | (with_reducible first | exact HB.out | apply below_alloc | apply pw_below_drewN | apply below_drew1) | exact HB.out))); (case aF => exact (fun k_ hk => Kd.fresh' (Kd.R_lt (by (with_reducible repeat (first | apply Kd.R_alloc | apply Kd.R_drewN | apply Kd.R_drew)); exact HO170.out)) k_ hk)); (case aO => exact (by (with_reducible repeat (first | apply Kd.R_alloc | apply Kd.R_drewN | apply Kd.R_drew)); exact HO179.out)); (case aS => exact (below_size (by repeat (first | (with_reducible first | exact HB.out | apply below_alloc | apply pw_below_drewN | apply below_drew1) | exact HB.out)))); (case aL => have := LMc11.out; omega); intro v181 w23 ho hb hg hat; rw [← Ny180.out] at ho; have n0_ := Aside0.mk (Kd.R_after (ok := (fun _ => True)) (by (with_reducible repeat (first | apply Kd.R_alloc | apply Kd.R_drewN | apply Kd.R_drew)); exact HO170.out) hg hat); have n1_ := Aside0.mk (Kd.R_over' (by (with_reducible repeat (first | apply Kd.R_alloc | apply Kd.R_drewN | apply Kd.R_drew)); exact HO173.out) (Kd.R_typed (by (with_reducible repeat (first | apply Kd.R_alloc | apply Kd.R_drewN | apply Kd.R_drew)); exact HO179.out)) (by decide) hg); have n2_ := Aside0.mk (hb); have n3_ := Aside0.mk (ho); clear HO170; clear HO173; clear HB; clear HO179; have HO170 := n0_; have HO173 := n1_; have HB := n2_; have HO182 := n3_; clear n0_ n1_ n2_ n3_; clear ho hb hg hat; obtain ⟨Ao24, co24, eo24⟩ := Kd.R_slice HO182.out; subst eo24) | ((with_reducible refine gate_callee (f := 16) rfl ?_); refine goesL_ (some 32) rfl rfl Tryd.func16 (by kernel_rfl) rfl #[.slice Ao24 y180.length co24] rfl (by (try simp only [List.map_toArray, List.map_cons, List.map_nil]); first | done | rfl | (simp only [List.length_drop, List.length_take]; rfl)) ?_; (with_reducible refine (safe_Unsafe.calls k _ _ y180 t183 _ ?side3 ?side1 ?side2 A12.out).mono ?_); (case side1 => repeat (first | exact (Kd.R_reads' HO182.out).2.2 | (with_reducible refine Kd.C_alloc ?_ _) | (with_reducible refine Kd.C_drewN ?_ _) | (with_reducible refine Kd.C_drew ?_))); (case side2 => exact (Kd.R_reads' HO182.out).2.1); (case side3 => exact Ext.tabs_at HT.out (by repeat (first | (with_reducible first | exact HB.out | apply below_alloc | apply pw_below_drewN | apply below_drew1) | exact HB.out))); rintro e w25 ⟨v184, rfl, ho0, hb⟩; refine ⟨_, rfl, ?_⟩; have n0_ := Aside0.mk (Kd.R_below (by (with_reducible repeat (first | apply Kd.R_alloc | apply Kd.R_drewN | apply Kd.R_drew)); exact HO170.out) hb); have n1_ := Aside0.mk (Kd.R_elder' (by (with_reducible repeat (first | apply Kd.R_alloc | apply Kd.R_drewN | apply Kd.R_drew)); exact HO173.out) (Kd.R_base ho0) hb); have n2_ := Aside0.mk (Kd.R_below (by (with_reducible repeat (first | apply Kd.R_alloc | apply Kd.R_drewN | apply Kd.R_drew)); exact HO182.out) hb); have n3_ := Aside0.mk (Kd.R_lower (Kd.R_new' ho0 (Kd.R_lt (by (with_reducible repeat (first | apply Kd.R_alloc | apply Kd.R_drewN | apply Kd.R_drew)); exact HO173.out))) (below_size (by repeat (first | (with_reducible first | exact HB.out | apply below_alloc | apply pw_below_drewN | apply below_drew1) | exact HB.out)))); have n4_ := Aside0.mk (below_step (by repeat (first | (with_reducible first | exact HB.out | apply below_alloc | apply pw_below_drewN | apply below_drew1) | exact HB.out)) hb); clear HO170; clear HO173; clear HO182; clear HB; have HO170 := n0_; have HO173 := n1_; have HO182 := n2_; have HO185 := n3_; have HB := n4_; clear n0_ n1_ n2_ n3_ n4_; (try clear hb); (try clear hb2); (try clear hk); (try clear hi); (try clear ho0)))
            all_goals (try (exfalso; omega))
            go_loopg [10] k (fun kq v10 w' => ∃ (x10_1 : Int), v10 = .int .i64 x10_1 ∧ Aside0 (transeptlaw12_SafeMore.l0 kq y168 a1 a2 t160 t171 t183 x10_1 = some true) ∧ Aside0 (kq ≤ k) ∧ Aside0 (Kd.R k30 30 w' w.heap.size (fun _ => True) (.slice Ao18 y168.length co18) y168) ∧ Aside0 (Kd.R Kd.string 9 w' w.heap.size (fun k_ => some k_ ≠ (v184 : Value).ownBlock) v172 t171) ∧ Aside0 (Kd.R Kd.string 9 w' w.heap.size (fun k_ => some k_ ≠ (v172 : Value).ownBlock) v184 t183) ∧ Aside0 (Below w.heap.size w w'))
            case atStart => exact ⟨(0), (by first | rfl | (simp; done) | (simp [*]; done) | (congr 1; unfold wrap64; omega) | (simp; simp only [decide_eq_false_iff_not, decide_eq_true_eq] at *; congr 2; omega)), H', ⟨Nat.le_refl _⟩, ⟨by (with_reducible repeat (first | apply Kd.R_alloc | apply Kd.R_drewN | apply Kd.R_drew)); exact Kd.R_mono HO170.out (fun _ hk => trivial)⟩, ⟨by (with_reducible repeat (first | apply Kd.R_alloc | apply Kd.R_drewN | apply Kd.R_drew)); exact Kd.R_mono HO173.out (fun _ hk => hk.2)⟩, ⟨by (with_reducible repeat (first | apply Kd.R_alloc | apply Kd.R_drewN | apply Kd.R_drew)); exact Kd.R_mono HO185.out (fun _ hk => hk.2)⟩, ⟨by repeat (first | (with_reducible first | exact HB.out | apply below_alloc | apply pw_below_drewN | apply below_drew1) | exact HB.out)⟩⟩
            case round =>
              clear H'
              try clear c1
              try clear q1
              try clear p2
              try clear c4
              try clear c6
              try clear c6b0
              try clear c6b1
              try clear c7
              try clear c7b0
              try clear c7b1
              try clear c8
              try clear c9
              try clear c10
              try clear c11
              try clear c16
              try clear q16
              try clear q16
              obtain ⟨x10_1, rfl, HA, HK1, HO_0, HO_8, HO_9, HB⟩ := hrel
              cases gk with
              | zero => exact absurd HA.out (by simp [transeptlaw12_SafeMore.l0])
              | succ k1 =>
                have H := HA.out
                clear HA
                simp only [transeptlaw12_SafeMore.l0] at H
                by_cases c26 : x10_1 < (t171.length : Int)
                · rw [if_pos c26] at H
                  have c26b0 : decide (x10_1 < (t171.length : Int)) = true := decide_eq_true c26
                  by_cases c27 : 0 ≤ x10_1
                  · rw [if_pos c27] at H
                    have c27b0 : decide (0 ≤ x10_1) = true := decide_eq_true c27
                    replace H := Option.bind_eq_some_iff.mp H
                    obtain ⟨t187, A280, H⟩ := H
                    replace H : (if t187 = true then (transeptlaw12_SafeMore.l0 k1 y168 a1 a2 t160 t171 t183 (wrap64 (x10_1 + 1))) else (some false)) = some true := H
                    have A28 := Aside0.mk A280
                    clear A280
                    by_cases c29 : t187 = true
                    · subst c29
                      have H1 : (transeptlaw12_SafeMore.l0 k1 y168 a1 a2 t160 t171 t183 (wrap64 (x10_1 + 1))) = some true := by rw [if_pos rfl] at H; exact H
                      clear H
                      have H := H1
                      clear H1
                      have H' := Aside0.mk H
                      clear H
                      obtain ⟨Ao30, co30, eo30⟩ := Kd.R_slice HO_8.out
                      subst eo30
                      have p186 : 0 ≤ (x10_1 : Int) := of_decide_eq_true (by first | (with_reducible assumption) | assumption)
                      have q186 : x10_1 < (t171.length : Int) := of_decide_eq_true (by first | (with_reducible assumption) | assumption)
                      obtain ⟨ad186, e186, hx186_0⟩ := Kd.at_string (Kd.R_reads' HO_8.out).2.2 x10_1 p186 q186
                      cases e186
                      replace p186 := eq_true p186
                      replace q186 := eq_true q186
                      obtain ⟨Ao31, co31, eo31⟩ := Kd.R_slice HO_9.out
                      subst eo31
                      go_wp2_with (first | ((with_reducible refine gate_callee (f := 17) rfl ?_); refine goesL_ (some 44) rfl rfl Tryd.func17 (by kernel_rfl) rfl #[.slice Ao31 t183.length co31, .string (rdOf ByteArray.empty t171 x10_1)] rfl (by (try simp only [List.map_toArray, List.map_cons, List.map_nil]); first | done | rfl | (simp only [List.length_drop, List.length_take]; rfl)) ?_; (with_reducible refine (transeptlaw12_in.calls k1 _ _ t183 (rdOf ByteArray.empty t171 x10_1) true _ ?side1 ?side2 A28.out).mono ?_); (case side1 => repeat (first | exact (Kd.R_reads' HO_9.out).2.2 | (with_reducible refine Kd.C_alloc ?_ _) | (with_reducible refine Kd.C_drewN ?_ _) | (with_reducible refine Kd.C_drew ?_))); (case side2 => exact (Kd.R_reads' HO_9.out).2.1); rintro e w' ⟨rfl, ⟨nd, rfl⟩⟩; refine ⟨_, rfl, ?_⟩))
                      all_goals (try (exfalso; omega))
                      go_roundg k1
                      case measure => have := HK1.out; omega
                      case rel => exact ⟨(wrap64 (x10_1 + 1)), (by first | rfl | (simp; done) | (simp [*]; done) | (congr 1; unfold wrap64; omega) | (simp; simp only [decide_eq_false_iff_not, decide_eq_true_eq] at *; congr 2; omega)), H', ⟨by have := HK1.out; omega⟩, ⟨by (with_reducible repeat (first | apply Kd.R_alloc | apply Kd.R_drewN | apply Kd.R_drew)); exact HO_0.out⟩, ⟨by (with_reducible repeat (first | apply Kd.R_alloc | apply Kd.R_drewN | apply Kd.R_drew)); exact HO_8.out⟩, ⟨by (with_reducible repeat (first | apply Kd.R_alloc | apply Kd.R_drewN | apply Kd.R_drew)); exact HO_9.out⟩, ⟨by repeat (first | (with_reducible first | exact HB.out | apply below_alloc | apply pw_below_drewN | apply below_drew1) | exact HB.out)⟩⟩
                    · replace c29 := Bool.eq_false_iff.mpr c29
                      subst c29
                      have H1 : (some false) = some true := by rw [if_neg (show ¬ (false = true) by decide)] at H; exact H
                      clear H
                      have H := H1
                      clear H1
                      exact absurd (Option.some.inj H) (by decide)
                  · rw [if_neg c27] at H
                    exact absurd H (by simp)
                · rw [if_neg c26] at H
                  have c26b0 : decide (x10_1 < (t171.length : Int)) = false := decide_eq_false c26
                  replace H := Option.bind_eq_some_iff.mp H
                  obtain ⟨t188, A340, H⟩ := H
                  replace H : (transeptlaw12_SafeMore.l1 k1 y168 a1 a2 t160 t171 t183 t188 0 0) = some true := H
                  have A34 := Aside0.mk A340
                  clear A340
                  have H' := Aside0.mk H
                  clear H
                  obtain ⟨Ao35, co35, eo35⟩ := Kd.R_slice HO_8.out
                  subst eo35
                  go_wp2_with (first | ((with_reducible refine gate_callee (f := 12) rfl ?_); refine goesL_ (some 48) rfl rfl Tryd.func12 (by kernel_rfl) rfl #[.string a1, .string a2] rfl (by (try simp only [List.map_toArray, List.map_cons, List.map_nil]); first | done | rfl | (simp only [List.length_drop, List.length_take]; rfl)) ?_; (with_reducible refine (Ext.safe_Header.calls a1 a2 t188 _ ?side1 A34.out).mono ?_); (case side1 => exact Ext.tabs_at HT.out (by repeat (first | (with_reducible first | exact HB.out | apply below_alloc | apply pw_below_drewN | apply below_drew1) | exact HB.out))); rintro e w36 ⟨rfl, hb⟩; refine ⟨_, rfl, ?_⟩; have n0_ := Aside0.mk (Kd.R_below (by (with_reducible repeat (first | apply Kd.R_alloc | apply Kd.R_drewN | apply Kd.R_drew)); exact HO_0.out) hb); have n1_ := Aside0.mk (Kd.R_below (by (with_reducible repeat (first | apply Kd.R_alloc | apply Kd.R_drewN | apply Kd.R_drew)); exact HO_8.out) hb); have n2_ := Aside0.mk (Kd.R_below (by (with_reducible repeat (first | apply Kd.R_alloc | apply Kd.R_drewN | apply Kd.R_drew)); exact HO_9.out) hb); have n3_ := Aside0.mk (below_step (by repeat (first | (with_reducible first | exact HB.out | apply below_alloc | apply pw_below_drewN | apply below_drew1) | exact HB.out)) hb); clear HO_0; clear HO_8; clear HO_9; clear HB; have HO_0 := n0_; have HO_8 := n1_; have HO_9 := n2_; have HB := n3_; clear n0_ n1_ n2_ n3_; (try clear hb); (try clear hb2); (try clear hk); (try clear hi)))
                  all_goals (try (exfalso; omega))
                  go_loopg [12, 13] k1 (fun kq v12 v13 w' => ∃ (x12_2 : Int) (x13_2 : Int), v12 = .int .i64 x12_2 ∧ v13 = .int .i64 x13_2 ∧ Aside0 (transeptlaw12_SafeMore.l1 kq y168 a1 a2 t160 t171 t183 t188 x12_2 x13_2 = some true) ∧ Aside0 (kq ≤ k1) ∧ Aside0 (Kd.R k30 30 w' w.heap.size (fun _ => True) (.slice Ao18 y168.length co18) y168) ∧ Aside0 (Kd.R Kd.string 9 w' w.heap.size (fun k_ => some k_ ≠ (v184 : Value).ownBlock) (.slice Ao35 t171.length co35) t171) ∧ Aside0 (Kd.R Kd.string 9 w' w.heap.size (fun k_ => some k_ ≠ ((.slice Ao35 t171.length co35) : Value).ownBlock) v184 t183) ∧ Aside0 (Below w.heap.size w w'))
                  case atStart => exact ⟨(0), (0), (by first | rfl | (simp; done) | (simp [*]; done) | (congr 1; unfold wrap64; omega) | (simp; simp only [decide_eq_false_iff_not, decide_eq_true_eq] at *; congr 2; omega)), (by first | rfl | (simp; done) | (simp [*]; done) | (congr 1; unfold wrap64; omega) | (simp; simp only [decide_eq_false_iff_not, decide_eq_true_eq] at *; congr 2; omega)), H', ⟨Nat.le_refl _⟩, ⟨by (with_reducible repeat (first | apply Kd.R_alloc | apply Kd.R_drewN | apply Kd.R_drew)); exact HO_0.out⟩, ⟨by (with_reducible repeat (first | apply Kd.R_alloc | apply Kd.R_drewN | apply Kd.R_drew)); exact HO_8.out⟩, ⟨by (with_reducible repeat (first | apply Kd.R_alloc | apply Kd.R_drewN | apply Kd.R_drew)); exact HO_9.out⟩, ⟨by repeat (first | (with_reducible first | exact HB.out | apply below_alloc | apply pw_below_drewN | apply below_drew1) | exact HB.out)⟩⟩
                  case round =>
                    clear H'
                    try clear c1
                    try clear p1
                    try clear q1
                    try clear hx1
                    try clear c2
                    try clear p2
                    try clear c4
                    try clear c6
                    try clear c6b0
                    try clear c6b1
                    try clear p6
                    try clear c7
                    try clear c7b0
                    try clear c7b1
                    try clear c8
                    try clear c9
                    try clear c10
                    try clear c11
                    try clear c12
                    try clear c16
                    try clear q16
                    try clear c17
                    try clear p18
                    try clear q18
                    try clear hx18
                    try clear c26
                    try clear c26b0
                    try clear c27
                    try clear c27b0
                    try clear c29
                    try clear hx186_0
                    try clear p186
                    try clear p2
                    try clear q1
                    try clear q16
                    try clear q186
                    obtain ⟨x12_2, x13_2, rfl, rfl, HA, HK2, HO_0, HO_8, HO_9, HB⟩ := hrel
                    cases gk with
                    | zero => exact absurd HA.out (by simp [transeptlaw12_SafeMore.l1])
                    | succ k2 =>
                      have H := HA.out
                      clear HA
                      simp only [transeptlaw12_SafeMore.l1] at H
                      by_cases c37 : x13_2 < (y168.length : Int)
                      · rw [if_pos c37] at H
                        have c37b0 : decide (x13_2 < (y168.length : Int)) = true := decide_eq_true c37
                        by_cases c38 : 0 ≤ x13_2
                        · rw [if_pos c38] at H
                          have c38b0 : decide (0 ≤ x13_2) = true := decide_eq_true c38
                          have H' := Aside0.mk H
                          clear H
                          have p189 : 0 ≤ (x13_2 : Int) := of_decide_eq_true (by first | (with_reducible assumption) | assumption)
                          have q189 : x13_2 < (y168.length : Int) := of_decide_eq_true (by first | (with_reducible assumption) | assumption)
                          obtain ⟨ad189, e189, hx189_0, hx189_1⟩ := at_T30 (Kd.R_reads' HO_0.out).2.2 x13_2 p189 q189
                          cases e189
                          replace p189 := eq_true p189
                          replace q189 := eq_true q189
                          go_wp2
                          all_goals (try (exfalso; omega))
                          go_roundg k2
                          case measure => have := HK1.out; have := HK2.out; omega
                          case rel => exact ⟨(wrap64 (x12_2 + (((rd_T30 y168 x13_2).f1).size : Int))), (wrap64 (x13_2 + 1)), (by first | rfl | (simp; done) | (simp [*]; done) | (congr 1; unfold wrap64; omega) | (simp; simp only [decide_eq_false_iff_not, decide_eq_true_eq] at *; congr 2; omega)), (by first | rfl | (simp; done) | (simp [*]; done) | (congr 1; unfold wrap64; omega) | (simp; simp only [decide_eq_false_iff_not, decide_eq_true_eq] at *; congr 2; omega)), H', ⟨by have := HK1.out; have := HK2.out; omega⟩, ⟨by (with_reducible repeat (first | apply Kd.R_alloc | apply Kd.R_drewN | apply Kd.R_drew)); exact HO_0.out⟩, ⟨by (with_reducible repeat (first | apply Kd.R_alloc | apply Kd.R_drewN | apply Kd.R_drew)); exact HO_8.out⟩, ⟨by (with_reducible repeat (first | apply Kd.R_alloc | apply Kd.R_drewN | apply Kd.R_drew)); exact HO_9.out⟩, ⟨by repeat (first | (with_reducible first | exact HB.out | apply below_alloc | apply pw_below_drewN | apply below_drew1) | exact HB.out)⟩⟩
                        · rw [if_neg c38] at H
                          exact absurd H (by simp)
                      · rw [if_neg c37] at H
                        have c37b0 : decide (x13_2 < (y168.length : Int)) = false := decide_eq_false c37
                        by_cases c39 : t188 = true
                        · subst c39
                          have H1 : (if (wrap64 (x12_2 + (a2.size : Int))) ≤ 1024 then (if (t183.length : Int) = (t171.length : Int) then (if t160 = true then (some (decide ((t183.length : Int) ≤ (wrap64 ((y168.length : Int) + 1))))) else (some false)) else (some false)) else (if t160 = true then (some (decide ((t183.length : Int) ≤ (wrap64 ((y168.length : Int) + 1))))) else (some false))) = some true := by rw [if_pos rfl] at H; exact H
                          clear H
                          have H := H1
                          clear H1
                          by_cases c40 : (wrap64 (x12_2 + (a2.size : Int))) ≤ 1024
                          · rw [if_pos c40] at H
                            have c40b0 : decide ((wrap64 (x12_2 + (a2.size : Int))) ≤ 1024) = true := decide_eq_true c40
                            by_cases c41 : (t183.length : Int) = (t171.length : Int)
                            · rw [if_pos c41] at H
                              have c41b0 : ((t183.length : Int) == (t171.length : Int)) = true := beq_iff_eq.mpr c41
                              have c41b1 : ((t183.length : Int) != (t171.length : Int)) = false := bne_eq_false_iff_eq.mpr c41
                              have c41b2 : (t183.length == t171.length) = true := by first | simpa using c41 | (simp at c41 ⊢; omega)
                              clear c41
                              by_cases c42 : t160 = true
                              · subst c42
                                have H1 : (some (decide ((t183.length : Int) ≤ (wrap64 ((y168.length : Int) + 1))))) = some true := by rw [if_pos rfl] at H; exact H
                                clear H
                                have H := H1
                                clear H1
                                first | (revert H; simp only [Option.some.injEq, Bool.false_eq_true, false_implies]; done) | (have hv_ := Option.some.inj H)
                                all_goals obtain ⟨Ao43, co43, eo43⟩ := Kd.R_slice HO_9.out
                                all_goals subst eo43
                                all_goals go_wp2
                                all_goals (try (exfalso; omega))
                                all_goals go_ret
                                all_goals exact ⟨by first | rfl | (simp [errW_none, errW_some] <;> rfl) | (simp only [← hji5]; first | rfl | (simp [errW_none, errW_some] <;> rfl)) | (simp [*, errW_none, errW_some] <;> rfl) | (exfalso; simp_all; done), by repeat (first | (with_reducible first | exact HB.out | apply below_alloc | apply pw_below_drewN | apply below_drew1) | exact HB.out)⟩
                              · replace c42 := Bool.eq_false_iff.mpr c42
                                subst c42
                                have H1 : (some false) = some true := by rw [if_neg (show ¬ (false = true) by decide)] at H; exact H
                                clear H
                                have H := H1
                                clear H1
                                exact absurd (Option.some.inj H) (by decide)
                            · rw [if_neg c41] at H
                              have c41b0 : ((t183.length : Int) == (t171.length : Int)) = false := beq_eq_false_iff_ne.mpr c41
                              have c41b1 : ((t183.length : Int) != (t171.length : Int)) = true := bne_iff_ne.mpr c41
                              have c41b2 : (t183.length == t171.length) = false := by first | simpa using c41 | (simp at c41 ⊢; omega)
                              exact absurd (Option.some.inj H) (by decide)
                          · rw [if_neg c40] at H
                            have c40b0 : decide ((wrap64 (x12_2 + (a2.size : Int))) ≤ 1024) = false := decide_eq_false c40
                            by_cases c46 : t160 = true
                            · subst c46
                              have H1 : (some (decide ((t183.length : Int) ≤ (wrap64 ((y168.length : Int) + 1))))) = some true := by rw [if_pos rfl] at H; exact H
                              clear H
                              have H := H1
                              clear H1
                              first | (revert H; simp only [Option.some.injEq, Bool.false_eq_true, false_implies]; done) | (have hv_ := Option.some.inj H)
                              all_goals obtain ⟨Ao47, co47, eo47⟩ := Kd.R_slice HO_9.out
                              all_goals subst eo47
                              all_goals go_wp2
                              all_goals (try (exfalso; omega))
                              all_goals go_ret
                              all_goals exact ⟨by first | rfl | (simp [errW_none, errW_some] <;> rfl) | (simp only [← hji5]; first | rfl | (simp [errW_none, errW_some] <;> rfl)) | (simp [*, errW_none, errW_some] <;> rfl) | (exfalso; simp_all; done), by repeat (first | (with_reducible first | exact HB.out | apply below_alloc | apply pw_below_drewN | apply below_drew1) | exact HB.out)⟩
                            · replace c46 := Bool.eq_false_iff.mpr c46
                              subst c46
                              have H1 : (some false) = some true := by rw [if_neg (show ¬ (false = true) by decide)] at H; exact H
                              clear H
                              have H := H1
                              clear H1
                              exact absurd (Option.some.inj H) (by decide)
                        · replace c39 := Bool.eq_false_iff.mpr c39
                          subst c39
                          have H1 : ((Ext.token_Lower.f a1).bind fun t190 => ((transeptlaw12_in.f k2 t183 t190).bind fun t191 => (if t191 = true then (if t160 = true then (some (decide ((t183.length : Int) ≤ (wrap64 ((y168.length : Int) + 1))))) else (some false)) else (some false)))) = some true := by rw [if_neg (show ¬ (false = true) by decide)] at H; exact H
                          clear H
                          have H := H1
                          clear H1
                          replace H := Option.bind_eq_some_iff.mp H
                          obtain ⟨t190, A480, H⟩ := H
                          replace H : ((transeptlaw12_in.f k2 t183 t190).bind fun t191 => (if t191 = true then (if t160 = true then (some (decide ((t183.length : Int) ≤ (wrap64 ((y168.length : Int) + 1))))) else (some false)) else (some false))) = some true := H
                          have A48 := Aside0.mk A480
                          clear A480
                          replace H := Option.bind_eq_some_iff.mp H
                          obtain ⟨t191, A490, H⟩ := H
                          replace H : (if t191 = true then (if t160 = true then (some (decide ((t183.length : Int) ≤ (wrap64 ((y168.length : Int) + 1))))) else (some false)) else (some false)) = some true := H
                          have A49 := Aside0.mk A490
                          clear A490
                          by_cases c50 : t191 = true
                          · subst c50
                            have H1 : (if t160 = true then (some (decide ((t183.length : Int) ≤ (wrap64 ((y168.length : Int) + 1))))) else (some false)) = some true := by rw [if_pos rfl] at H; exact H
                            clear H
                            have H := H1
                            clear H1
                            by_cases c51 : t160 = true
                            · subst c51
                              have H1 : (some (decide ((t183.length : Int) ≤ (wrap64 ((y168.length : Int) + 1))))) = some true := by rw [if_pos rfl] at H; exact H
                              clear H
                              have H := H1
                              clear H1
                              first | (revert H; simp only [Option.some.injEq, Bool.false_eq_true, false_implies]; done) | (have hv_ := Option.some.inj H)
                              all_goals go_wp2_with (first | (go_at_call 10; (with_reducible refine (Ext.token_Lower.calls a1 t190 _ A48.out).mono ?_); rintro e w52 ⟨rfl, hb⟩; have n0_ := Aside0.mk (Kd.R_below (by (with_reducible repeat (first | apply Kd.R_alloc | apply Kd.R_drewN | apply Kd.R_drew)); exact HO_0.out) hb); have n1_ := Aside0.mk (Kd.R_below (by (with_reducible repeat (first | apply Kd.R_alloc | apply Kd.R_drewN | apply Kd.R_drew)); exact HO_8.out) hb); have n2_ := Aside0.mk (Kd.R_below (by (with_reducible repeat (first | apply Kd.R_alloc | apply Kd.R_drewN | apply Kd.R_drew)); exact HO_9.out) hb); have n3_ := Aside0.mk (below_step (by repeat (first | (with_reducible first | exact HB.out | apply below_alloc | apply pw_below_drewN | apply below_drew1) | exact HB.out)) hb); clear HO_0; clear HO_8; clear HO_9; clear HB; have HO_0 := n0_; have HO_8 := n1_; have HO_9 := n2_; have HB := n3_; clear n0_ n1_ n2_ n3_; (try clear hb); (try clear hb2); (try clear hk); (try clear hi); obtain ⟨Ao53, co53, eo53⟩ := Kd.R_slice HO_9.out; subst eo53) | (go_at_call 17; (with_reducible refine (transeptlaw12_in.calls k2 _ _ t183 t190 true _ ?side1 ?side2 A49.out).mono ?_); (case side1 => repeat (first | exact (Kd.R_reads' HO_9.out).2.2 | (with_reducible refine Kd.C_alloc ?_ _) | (with_reducible refine Kd.C_drewN ?_ _) | (with_reducible refine Kd.C_drew ?_))); (case side2 => exact (Kd.R_reads' HO_9.out).2.1); rintro e w' ⟨rfl, ⟨nd, rfl⟩⟩))
                              all_goals (try (exfalso; omega))
                              all_goals go_ret
                              all_goals exact ⟨by first | rfl | (simp [errW_none, errW_some] <;> rfl) | (simp only [← hji5]; first | rfl | (simp [errW_none, errW_some] <;> rfl)) | (simp [*, errW_none, errW_some] <;> rfl) | (exfalso; simp_all; done), by repeat (first | (with_reducible first | exact HB.out | apply below_alloc | apply pw_below_drewN | apply below_drew1) | exact HB.out)⟩
                            · replace c51 := Bool.eq_false_iff.mpr c51
                              subst c51
                              have H1 : (some false) = some true := by rw [if_neg (show ¬ (false = true) by decide)] at H; exact H
                              clear H
                              have H := H1
                              clear H1
                              exact absurd (Option.some.inj H) (by decide)
                          · replace c50 := Bool.eq_false_iff.mpr c50
                            subst c50
                            have H1 : (some false) = some true := by rw [if_neg (show ¬ (false = true) by decide)] at H; exact H
                            clear H
                            have H := H1
                            clear H1
                            exact absurd (Option.some.inj H) (by decide)
          · rw [if_neg c11] at H
            exact absurd H (by simp)
        · rw [if_neg c10] at H
          exact absurd H (by simp)
      · rw [if_neg c8] at H
        exact absurd H (by simp)
    · rw [if_neg c7] at H
      exact absurd H (by simp)
  · rw [if_neg c6] at H
    exact absurd H (by simp)

end Go.Proofs.YtikhboebmmmopaaDoor.Fun
