-- Written by xprint.py, a program of this session's, by means of the kit's print. Not trusted: Lean checks it.
import Derived.Test.YtkdcgodpobhfhaaDoorFun0
import Derived.Test.YtkdcgodpobhfhaaDoorFun1
import Derived.Test.YtkdcgodpobhfhaaDoorFun3
namespace Go.Proofs.YtkdcgodpobhfhaaDoor.Fun
open Go.RowKit Go.Proofs.YtkdcgodpobhfhaaDoorW.PrintWords Go.Proofs.YtkdcgodpobhfhaaDoorW.PrintLast Go.Proofs.YtkdcgodpobhfhaaDoorW.PrintMore
attribute [local go_sem] max2_int min2_int max_two min_two max_three min_three max_four min_four   -- for this text's walks alone
set_option linter.unusedVariables false
set_option linter.unusedSimpArgs false

/-! ### transeptlaw09_TokenJoins: function 4 -/
mutual
def transeptlaw09_TokenJoins.l0 : Nat → List ByteArray → List Bool → Bool → List ByteArray → ByteArray → Int → Option (Bool)
  | 0, _, _, _, _, _, _ => none
  | k + 1, x0, x1, x5, x6, x7, x8 => if x8 < (x0.length : Int) then (transeptlaw09_TokenJoins.j1 k x0 x1 x5 x6 x7 x8 (decide (x8 < 50))) else (transeptlaw09_TokenJoins.j1 k x0 x1 x5 x6 x7 x8 false)
def transeptlaw09_TokenJoins.j1 : Nat → List ByteArray → List Bool → Bool → List ByteArray → ByteArray → Int → Bool → Option (Bool)
  | 0, _, _, _, _, _, _, _ => none
  | k + 1, x0, x1, x5, x6, x7, x8, x18 => if x18 = true then (if 0 ≤ x8 then (if x8 < (x0.length : Int) then ((Ext.token_Name.f (rdOf ByteArray.empty x0 x8)).bind fun t166 => (if t166 = true then (if (x6.length : Int) > 0 then (if x7.size + 1 ≤ 9223372036854775807 then (transeptlaw09_TokenJoins.j2 k x0 x1 x5 x6 (x7 ++ (⟨#[44]⟩ : ByteArray)) x8) else (none)) else (transeptlaw09_TokenJoins.j2 k x0 x1 x5 x6 x7 x8)) else (transeptlaw09_TokenJoins.l0 k x0 x1 x5 x6 x7 (wrap64 (x8 + 1))))) else (none)) else (none)) else (if (x6.length : Int) = 0 then (if x5 = true then ((token_Parts.f k x7).bind fun t199 => ((transeptref09_Same.f k t199 (([(⟨#[]⟩ : ByteArray)] : List ByteArray))).bind fun t202 => (some t202))) else (some false)) else (if x5 = true then ((token_Parts.f k x7).bind fun t203 => ((transeptref09_Same.f k t203 x6).bind fun t206 => (some t206))) else (some false)))
def transeptlaw09_TokenJoins.j2 : Nat → List ByteArray → List Bool → Bool → List ByteArray → ByteArray → Int → Option (Bool)
  | 0, _, _, _, _, _, _ => none
  | k + 1, x0, x1, x5, x6, x7, x8 => if x8 < (x1.length : Int) then (if 0 ≤ x8 then (transeptlaw09_TokenJoins.j3 k x0 x1 x5 x6 x7 x8 (rdOf false x1 x8)) else (none)) else (transeptlaw09_TokenJoins.j3 k x0 x1 x5 x6 x7 x8 false)
def transeptlaw09_TokenJoins.j3 : Nat → List ByteArray → List Bool → Bool → List ByteArray → ByteArray → Int → Bool → Option (Bool)
  | 0, _, _, _, _, _, _, _ => none
  | k + 1, x0, x1, x5, x6, x7, x8, x42 => if x42 = true then (if x7.size + 2 ≤ 9223372036854775807 then (if 0 ≤ x8 then (if x8 < (x0.length : Int) then (if (x7 ++ (⟨#[32, 9]⟩ : ByteArray)).size + (rdOf ByteArray.empty x0 x8).size ≤ 9223372036854775807 then (if (x1.length : Int) > (wrap64 (2 * x8)) then (if 0 ≤ (wrap64 (2 * x8)) then (if (wrap64 (2 * x8)) < (x1.length : Int) then (if rdOf false x1 (wrap64 (2 * x8)) = true then (if ((x7 ++ (⟨#[32, 9]⟩ : ByteArray)) ++ (rdOf ByteArray.empty x0 x8)).size + 1 ≤ 9223372036854775807 then (if x6.length < 8796093022208 then (transeptlaw09_TokenJoins.l0 k x0 x1 x5 (x6 ++ [rdOf ByteArray.empty x0 x8]) (((x7 ++ (⟨#[32, 9]⟩ : ByteArray)) ++ (rdOf ByteArray.empty x0 x8)) ++ (⟨#[32]⟩ : ByteArray)) (wrap64 (x8 + 1))) else (none)) else (none)) else (if x6.length < 8796093022208 then (transeptlaw09_TokenJoins.l0 k x0 x1 x5 (x6 ++ [rdOf ByteArray.empty x0 x8]) ((x7 ++ (⟨#[32, 9]⟩ : ByteArray)) ++ (rdOf ByteArray.empty x0 x8)) (wrap64 (x8 + 1))) else (none))) else (none)) else (none)) else (if x6.length < 8796093022208 then (transeptlaw09_TokenJoins.l0 k x0 x1 x5 (x6 ++ [rdOf ByteArray.empty x0 x8]) ((x7 ++ (⟨#[32, 9]⟩ : ByteArray)) ++ (rdOf ByteArray.empty x0 x8)) (wrap64 (x8 + 1))) else (none))) else (none)) else (none)) else (none)) else (none)) else (if 0 ≤ x8 then (if x8 < (x0.length : Int) then (if x7.size + (rdOf ByteArray.empty x0 x8).size ≤ 9223372036854775807 then (if (x1.length : Int) > (wrap64 (2 * x8)) then (if 0 ≤ (wrap64 (2 * x8)) then (if (wrap64 (2 * x8)) < (x1.length : Int) then (if rdOf false x1 (wrap64 (2 * x8)) = true then (if (x7 ++ (rdOf ByteArray.empty x0 x8)).size + 1 ≤ 9223372036854775807 then (if x6.length < 8796093022208 then (transeptlaw09_TokenJoins.l0 k x0 x1 x5 (x6 ++ [rdOf ByteArray.empty x0 x8]) ((x7 ++ (rdOf ByteArray.empty x0 x8)) ++ (⟨#[32]⟩ : ByteArray)) (wrap64 (x8 + 1))) else (none)) else (none)) else (if x6.length < 8796093022208 then (transeptlaw09_TokenJoins.l0 k x0 x1 x5 (x6 ++ [rdOf ByteArray.empty x0 x8]) (x7 ++ (rdOf ByteArray.empty x0 x8)) (wrap64 (x8 + 1))) else (none))) else (none)) else (none)) else (if x6.length < 8796093022208 then (transeptlaw09_TokenJoins.l0 k x0 x1 x5 (x6 ++ [rdOf ByteArray.empty x0 x8]) (x7 ++ (rdOf ByteArray.empty x0 x8)) (wrap64 (x8 + 1))) else (none))) else (none)) else (none)) else (none))
end
def transeptlaw09_TokenJoins.f (k : Nat) (l0 : List ByteArray) (l1 : List Bool) : Option (Bool) := (transeptlaw09_shown.f k).bind fun t164 => (transeptlaw09_TokenJoins.l0 k l0 l1 t164 ([] : List ByteArray) (⟨#[]⟩ : ByteArray) 0)
theorem transeptlaw09_TokenJoins.mono_l : ∀ k, (∀ y0 y1 y2 y3 y4 y5, LeO (transeptlaw09_TokenJoins.l0 k y0 y1 y2 y3 y4 y5) (transeptlaw09_TokenJoins.l0 (k + 1) y0 y1 y2 y3 y4 y5)) ∧ (∀ y0 y1 y2 y3 y4 y5 y6, LeO (transeptlaw09_TokenJoins.j1 k y0 y1 y2 y3 y4 y5 y6) (transeptlaw09_TokenJoins.j1 (k + 1) y0 y1 y2 y3 y4 y5 y6)) ∧ (∀ y0 y1 y2 y3 y4 y5, LeO (transeptlaw09_TokenJoins.j2 k y0 y1 y2 y3 y4 y5) (transeptlaw09_TokenJoins.j2 (k + 1) y0 y1 y2 y3 y4 y5)) ∧ (∀ y0 y1 y2 y3 y4 y5 y6, LeO (transeptlaw09_TokenJoins.j3 k y0 y1 y2 y3 y4 y5 y6) (transeptlaw09_TokenJoins.j3 (k + 1) y0 y1 y2 y3 y4 y5 y6))
  | 0 => ⟨fun _ _ _ _ _ _ r h => by simp [transeptlaw09_TokenJoins.l0] at h, fun _ _ _ _ _ _ _ r h => by simp [transeptlaw09_TokenJoins.j1] at h, fun _ _ _ _ _ _ r h => by simp [transeptlaw09_TokenJoins.j2] at h, fun _ _ _ _ _ _ _ r h => by simp [transeptlaw09_TokenJoins.j3] at h⟩
  | k + 1 => by
    obtain ⟨ih0, ih1, ih2, ih3⟩ := transeptlaw09_TokenJoins.mono_l k
    refine ⟨?_, ?_, ?_, ?_⟩
    · intro y0 y1 y2 y3 y4 y5
      unfold transeptlaw09_TokenJoins.l0
      repeat' first
      | (with_reducible exact ih0 _ _ _ _ _ _)
      | (with_reducible exact ih1 _ _ _ _ _ _ _)
      | (with_reducible exact ih2 _ _ _ _ _ _)
      | (with_reducible exact ih3 _ _ _ _ _ _ _)
      | (with_reducible exact token_Parts.mono _ _)
      | (with_reducible exact transeptlaw09_shown.mono _)
      | (with_reducible exact transeptref09_Same.mono _ _ _)
      | (with_reducible exact LeO.refl _)
      | (with_reducible exact LeO.none _)
      | (with_reducible refine LeO.ite ?_ ?_)
      | (with_reducible refine LeO.bind ?_ (fun _ => ?_))
      | exact ih0 _ _ _ _ _ _
      | exact ih1 _ _ _ _ _ _ _
      | exact ih2 _ _ _ _ _ _
      | exact ih3 _ _ _ _ _ _ _
      | exact token_Parts.mono _ _
      | exact transeptlaw09_shown.mono _
      | exact transeptref09_Same.mono _ _ _
      | exact LeO.none _
      | refine LeO.ite ?_ ?_
      | refine LeO.bind ?_ (fun _ => ?_)
    · intro y0 y1 y2 y3 y4 y5 y6
      unfold transeptlaw09_TokenJoins.j1
      repeat' first
      | (with_reducible exact ih0 _ _ _ _ _ _)
      | (with_reducible exact ih1 _ _ _ _ _ _ _)
      | (with_reducible exact ih2 _ _ _ _ _ _)
      | (with_reducible exact ih3 _ _ _ _ _ _ _)
      | (with_reducible exact token_Parts.mono _ _)
      | (with_reducible exact transeptlaw09_shown.mono _)
      | (with_reducible exact transeptref09_Same.mono _ _ _)
      | (with_reducible exact LeO.refl _)
      | (with_reducible exact LeO.none _)
      | (with_reducible refine LeO.ite ?_ ?_)
      | (with_reducible refine LeO.bind ?_ (fun _ => ?_))
      | exact ih0 _ _ _ _ _ _
      | exact ih1 _ _ _ _ _ _ _
      | exact ih2 _ _ _ _ _ _
      | exact ih3 _ _ _ _ _ _ _
      | exact token_Parts.mono _ _
      | exact transeptlaw09_shown.mono _
      | exact transeptref09_Same.mono _ _ _
      | exact LeO.none _
      | refine LeO.ite ?_ ?_
      | refine LeO.bind ?_ (fun _ => ?_)
    · intro y0 y1 y2 y3 y4 y5
      unfold transeptlaw09_TokenJoins.j2
      repeat' first
      | (with_reducible exact ih0 _ _ _ _ _ _)
      | (with_reducible exact ih1 _ _ _ _ _ _ _)
      | (with_reducible exact ih2 _ _ _ _ _ _)
      | (with_reducible exact ih3 _ _ _ _ _ _ _)
      | (with_reducible exact token_Parts.mono _ _)
      | (with_reducible exact transeptlaw09_shown.mono _)
      | (with_reducible exact transeptref09_Same.mono _ _ _)
      | (with_reducible exact LeO.refl _)
      | (with_reducible exact LeO.none _)
      | (with_reducible refine LeO.ite ?_ ?_)
      | (with_reducible refine LeO.bind ?_ (fun _ => ?_))
      | exact ih0 _ _ _ _ _ _
      | exact ih1 _ _ _ _ _ _ _
      | exact ih2 _ _ _ _ _ _
      | exact ih3 _ _ _ _ _ _ _
      | exact token_Parts.mono _ _
      | exact transeptlaw09_shown.mono _
      | exact transeptref09_Same.mono _ _ _
      | exact LeO.none _
      | refine LeO.ite ?_ ?_
      | refine LeO.bind ?_ (fun _ => ?_)
    · intro y0 y1 y2 y3 y4 y5 y6
      unfold transeptlaw09_TokenJoins.j3
      repeat' first
      | (with_reducible exact ih0 _ _ _ _ _ _)
      | (with_reducible exact ih1 _ _ _ _ _ _ _)
      | (with_reducible exact ih2 _ _ _ _ _ _)
      | (with_reducible exact ih3 _ _ _ _ _ _ _)
      | (with_reducible exact token_Parts.mono _ _)
      | (with_reducible exact transeptlaw09_shown.mono _)
      | (with_reducible exact transeptref09_Same.mono _ _ _)
      | (with_reducible exact LeO.refl _)
      | (with_reducible exact LeO.none _)
      | (with_reducible refine LeO.ite ?_ ?_)
      | (with_reducible refine LeO.bind ?_ (fun _ => ?_))
      | exact ih0 _ _ _ _ _ _
      | exact ih1 _ _ _ _ _ _ _
      | exact ih2 _ _ _ _ _ _
      | exact ih3 _ _ _ _ _ _ _
      | exact token_Parts.mono _ _
      | exact transeptlaw09_shown.mono _
      | exact transeptref09_Same.mono _ _ _
      | exact LeO.none _
      | refine LeO.ite ?_ ?_
      | refine LeO.bind ?_ (fun _ => ?_)
theorem transeptlaw09_TokenJoins.mono : ∀ a0 a1 k, LeO (transeptlaw09_TokenJoins.f k a0 a1) (transeptlaw09_TokenJoins.f (k + 1) a0 a1) := by
  intro a0 a1 k
  obtain ⟨ih0, ih1, ih2, ih3⟩ := transeptlaw09_TokenJoins.mono_l k
  unfold transeptlaw09_TokenJoins.f
  repeat' first
      | (with_reducible exact ih0 _ _ _ _ _ _)
      | (with_reducible exact ih1 _ _ _ _ _ _ _)
      | (with_reducible exact ih2 _ _ _ _ _ _)
      | (with_reducible exact ih3 _ _ _ _ _ _ _)
      | (with_reducible exact token_Parts.mono _ _)
      | (with_reducible exact transeptlaw09_shown.mono _)
      | (with_reducible exact transeptref09_Same.mono _ _ _)
      | (with_reducible exact LeO.refl _)
      | (with_reducible exact LeO.none _)
      | (with_reducible refine LeO.ite ?_ ?_)
      | (with_reducible refine LeO.bind ?_ (fun _ => ?_))
      | exact ih0 _ _ _ _ _ _
      | exact ih1 _ _ _ _ _ _ _
      | exact ih2 _ _ _ _ _ _
      | exact ih3 _ _ _ _ _ _ _
      | exact token_Parts.mono _ _
      | exact transeptlaw09_shown.mono _
      | exact transeptref09_Same.mono _ _ _
      | exact LeO.none _
      | refine LeO.ite ?_ ?_
      | refine LeO.bind ?_ (fun _ => ?_)
set_option maxHeartbeats 8000000 in
set_option maxRecDepth 100000 in
theorem transeptlaw09_TokenJoins.calls (k : Nat) (A0 : Option Addr) (c0 : Nat) (l0 : List ByteArray) (A1 : Option Addr) (c1 : Nat) (l1 : List Bool) (r : Bool) (w : World) (hT : Ext.Tabs w) (hr0 : Kd.C Kd.string w A0 l0.length l0) (hc0 : l0.length ≤ c0) (hr1 : Kd.C Kd.bool w A1 l1.length l1) (hc1 : l1.length ≤ c1) (h : transeptlaw09_TokenJoins.f k l0 l1 = some r) :
    Calls Tryd.prog 4 #[.slice A0 l0.length c0, .slice A1 l1.length c1] w fun e w' => e = .returned (.bool r) ∧ Below w.heap.size w w' := by
  have HR0 := Aside0.mk hr0
  have HC0 := Aside0.mk hc0
  clear hr0 hc0
  have HR1 := Aside0.mk hr1
  have HC1 := Aside0.mk hc1
  clear hr1 hc1
  have HB := Aside0.mk (Below.refl w.heap.size w)
  have HT := Aside0.mk hT
  clear hT
  have H : ((transeptlaw09_shown.f k).bind fun t164 => (transeptlaw09_TokenJoins.l0 k l0 l1 t164 ([] : List ByteArray) (⟨#[]⟩ : ByteArray) 0)) = some r := h
  clear h
  replace H := Option.bind_eq_some_iff.mp H
  obtain ⟨t164, A30, H⟩ := H
  replace H : (transeptlaw09_TokenJoins.l0 k l0 l1 t164 ([] : List ByteArray) (⟨#[]⟩ : ByteArray) 0) = some r := H
  have A3 := Aside0.mk A30
  clear A30
  have H' := Aside0.mk H
  clear H
  go_enter Tryd.func4, Tryd.ntmps4
  go_wp2_with (first | ((with_reducible refine gate_callee (f := 9) rfl ?_); refine goesL_ (some 10) rfl rfl Tryd.func9 (by kernel_rfl) rfl #[] rfl (by (try simp only [List.map_toArray, List.map_cons, List.map_nil]); first | done | rfl | (simp only [List.length_drop, List.length_take]; rfl)) ?_; (with_reducible refine (transeptlaw09_shown.calls k  t164 _ ?side1 A3.out).mono ?_); (case side1 => exact Ext.tabs_at HT.out (by repeat (first | (with_reducible first | exact HB.out | apply below_alloc | apply pw_below_drewN | apply below_drew1) | exact HB.out))); rintro e w4 ⟨rfl, hb⟩; refine ⟨_, rfl, ?_⟩; have n0_ := Aside0.mk (below_step (by repeat (first | (with_reducible first | exact HB.out | apply below_alloc | apply pw_below_drewN | apply below_drew1) | exact HB.out)) hb); clear HB; have HB := n0_; clear n0_; (try clear hb); (try clear hb2); (try clear hk); (try clear hi)))
  all_goals (try (exfalso; omega))
  go_loopg [6, 7, 8] k (fun kq v6 v7 v8 w' => ∃ (x6_1 : List ByteArray) (x7_1 : ByteArray) (x8_1 : Int), v7 = .string x7_1 ∧ v8 = .int .i64 x8_1 ∧ Aside0 (transeptlaw09_TokenJoins.l0 kq l0 l1 t164 x6_1 x7_1 x8_1 = some r) ∧ Aside0 (kq ≤ k) ∧ Aside0 (Kd.R Kd.string 9 w' w.heap.size (fun _ => True) v6 x6_1) ∧ Aside0 (Below w.heap.size w w'))
  case atStart => exact ⟨(([] : List ByteArray)), ((⟨#[]⟩ : ByteArray)), (0), (by first | rfl | (simp; done) | (simp [*]; done)), (by first | rfl | (simp; done) | (simp [*]; done)), H', ⟨Nat.le_refl _⟩, ⟨by first | exact Kd.R_nil _ _ _ _ _ | exact Kd.N_nil _ _ _ _ _ | exact Kd.V_nil _ _ _ _ _ | exact Kd.Q_nil _ _ _ _ _ | exact Kd.S_nil _ _ _ _ _⟩, ⟨by repeat (first | (with_reducible first | exact HB.out | apply below_alloc | apply pw_below_drewN | apply below_drew1) | exact HB.out)⟩⟩
  case round =>
    clear H'
    try clear c1
    try clear p2
    try clear c4
    obtain ⟨x6_1, x7_1, x8_1, rfl, rfl, HA, HK1, HO_6, HB⟩ := hrel
    cases gk with
    | zero => exact absurd HA.out (by simp [transeptlaw09_TokenJoins.l0])
    | succ k1 =>
      have H := HA.out
      clear HA
      simp only [transeptlaw09_TokenJoins.l0] at H
      have HC5 := Aside0.mk H
      clear H
      go_upto_region 5 with (fail)
      go_cut [18] (fun v18 wc => ∃ (kq : Nat) (x18_4 : Bool), v18 = .bool x18_4 ∧ Aside0 (transeptlaw09_TokenJoins.j1 kq l0 l1 t164 x6_1 x7_1 x8_1 x18_4 = some r) ∧ Aside0 (kq ≤ k1) ∧ Aside0 (Kd.R Kd.string 9 wc w.heap.size (fun _ => True) u6 x6_1) ∧ Aside0 (Below w.heap.size w wc))
      case first =>
        have H := HC5.out
        clear HC5
        by_cases c6 : x8_1 < (l0.length : Int)
        · rw [if_pos c6] at H
          have c6b0 : decide (x8_1 < (l0.length : Int)) = true := decide_eq_true c6
          (first | rw [c6b0] | (simp only [i64_w, i32_w]; rw [c6b0]) | skip)
          have H' := Aside0.mk H
          clear H
          go_wp2
          all_goals (try (exfalso; omega))
          go_meet
          case rel => exact ⟨_, (decide (x8_1 < 50)), (by first | rfl | (simp; done) | (simp [*]; done)), H', ⟨by have := HK1.out; first | omega | exact Nat.le_refl _⟩, ⟨by (with_reducible repeat (first | apply Kd.R_alloc | apply Kd.R_drewN | apply Kd.R_drew)); exact HO_6.out⟩, ⟨by repeat (first | (with_reducible first | exact HB.out | apply below_alloc | apply pw_below_drewN | apply below_drew1) | exact HB.out)⟩⟩
        · rw [if_neg c6] at H
          have c6b0 : decide (x8_1 < (l0.length : Int)) = false := decide_eq_false c6
          (first | rw [c6b0] | (simp only [i64_w, i32_w]; rw [c6b0]) | skip)
          have H' := Aside0.mk H
          clear H
          go_wp2
          all_goals (try (exfalso; omega))
          go_meet
          case rel => exact ⟨_, (false), (by first | rfl | (simp; done) | (simp [*]; done)), H', ⟨by have := HK1.out; first | omega | exact Nat.le_refl _⟩, ⟨by (with_reducible repeat (first | apply Kd.R_alloc | apply Kd.R_drewN | apply Kd.R_drew)); exact HO_6.out⟩, ⟨by repeat (first | (with_reducible first | exact HB.out | apply below_alloc | apply pw_below_drewN | apply below_drew1) | exact HB.out)⟩⟩
      case rest =>
        clear HC5
        try clear c1
        try clear p2
        try clear c4
        try clear c6
        try clear c6b0
        try clear p2
        obtain ⟨kq, x18_4, rfl, HA, HJ4, HO_6, HB⟩ := hcut
        cases kq with
        | zero => exact absurd HA.out (by simp [transeptlaw09_TokenJoins.j1])
        | succ kj4 =>
          have H := HA.out
          clear HA
          simp only [transeptlaw09_TokenJoins.j1] at H
          by_cases c7 : x18_4 = true
          · subst c7
            have H1 : (if 0 ≤ x8_1 then (if x8_1 < (l0.length : Int) then ((Ext.token_Name.f (rdOf ByteArray.empty l0 x8_1)).bind fun t166 => (if t166 = true then (if (x6_1.length : Int) > 0 then (if x7_1.size + 1 ≤ 9223372036854775807 then (transeptlaw09_TokenJoins.j2 kj4 l0 l1 t164 x6_1 (x7_1 ++ (⟨#[44]⟩ : ByteArray)) x8_1) else (none)) else (transeptlaw09_TokenJoins.j2 kj4 l0 l1 t164 x6_1 x7_1 x8_1)) else (transeptlaw09_TokenJoins.l0 kj4 l0 l1 t164 x6_1 x7_1 (wrap64 (x8_1 + 1))))) else (none)) else (none)) = some r := by rw [if_pos rfl] at H; exact H
            clear H
            have H := H1
            clear H1
            by_cases c8 : 0 ≤ x8_1
            · rw [if_pos c8] at H
              have c8b0 : decide (0 ≤ x8_1) = true := decide_eq_true c8
              by_cases c9 : x8_1 < (l0.length : Int)
              · rw [if_pos c9] at H
                have c9b0 : decide (x8_1 < (l0.length : Int)) = true := decide_eq_true c9
                replace H := Option.bind_eq_some_iff.mp H
                obtain ⟨t166, A100, H⟩ := H
                replace H : (if t166 = true then (if (x6_1.length : Int) > 0 then (if x7_1.size + 1 ≤ 9223372036854775807 then (transeptlaw09_TokenJoins.j2 kj4 l0 l1 t164 x6_1 (x7_1 ++ (⟨#[44]⟩ : ByteArray)) x8_1) else (none)) else (transeptlaw09_TokenJoins.j2 kj4 l0 l1 t164 x6_1 x7_1 x8_1)) else (transeptlaw09_TokenJoins.l0 kj4 l0 l1 t164 x6_1 x7_1 (wrap64 (x8_1 + 1)))) = some r := H
                have A10 := Aside0.mk A100
                clear A100
                by_cases c11 : t166 = true
                · subst c11
                  have H1 : (if (x6_1.length : Int) > 0 then (if x7_1.size + 1 ≤ 9223372036854775807 then (transeptlaw09_TokenJoins.j2 kj4 l0 l1 t164 x6_1 (x7_1 ++ (⟨#[44]⟩ : ByteArray)) x8_1) else (none)) else (transeptlaw09_TokenJoins.j2 kj4 l0 l1 t164 x6_1 x7_1 x8_1)) = some r := by rw [if_pos rfl] at H; exact H
                  clear H
                  have H := H1
                  clear H1
                  have HC12 := Aside0.mk H
                  clear H
                  have p165 : 0 ≤ (x8_1 : Int) := of_decide_eq_true (by first | (with_reducible assumption) | assumption)
                  have q165 : x8_1 < (l0.length : Int) := of_decide_eq_true (by first | (with_reducible assumption) | assumption)
                  obtain ⟨ad165, e165, hx165_0⟩ := Kd.at_string HR0.out x8_1 p165 q165
                  cases e165
                  replace hx165_0 := (HB.out.cell (World.block_lt_of_cell? w _ hx165_0)).trans hx165_0
                  replace p165 := eq_true p165
                  replace q165 := eq_true q165
                  go_upto_if 30 with (first | ((with_reducible refine gate_callee (f := 10) rfl ?_); refine goesL_ (some 25) rfl rfl Tryd.func10 (by kernel_rfl) rfl #[.string (rdOf ByteArray.empty l0 x8_1)] rfl (by (try simp only [List.map_toArray, List.map_cons, List.map_nil]); first | done | rfl | (simp only [List.length_drop, List.length_take]; rfl)) ?_; (with_reducible refine (Ext.token_Name.calls (rdOf ByteArray.empty l0 x8_1) true _ ?side1 A10.out).mono ?_); (case side1 => exact Ext.tabs_at HT.out (by repeat (first | (with_reducible first | exact HB.out | apply below_alloc | apply pw_below_drewN | apply below_drew1) | exact HB.out))); rintro e w13 ⟨rfl, hb⟩; refine ⟨_, rfl, ?_⟩; have n0_ := Aside0.mk (Kd.R_below (by (with_reducible repeat (first | apply Kd.R_alloc | apply Kd.R_drewN | apply Kd.R_drew)); exact HO_6.out) hb); have n1_ := Aside0.mk (below_step (by repeat (first | (with_reducible first | exact HB.out | apply below_alloc | apply pw_below_drewN | apply below_drew1) | exact HB.out)) hb); clear HO_6; clear HB; have HO_6 := n0_; have HB := n1_; clear n0_ n1_; (try clear hb); (try clear hb2); (try clear hk); (try clear hi); obtain ⟨Ao14, co14, eo14⟩ := Kd.R_slice HO_6.out; subst eo14))
                  (try simp only [Act.put, List.setIfInBounds_toArray, List.set_cons_zero, List.set_cons_succ])
                  go_cut [7] (fun v7 wc => ∃ (kq : Nat) (x7_11 : ByteArray), v7 = .string x7_11 ∧ Aside0 (transeptlaw09_TokenJoins.j2 kq l0 l1 t164 x6_1 x7_11 x8_1 = some r) ∧ Aside0 (kq ≤ kj4) ∧ Aside0 (Kd.R Kd.string 9 wc w.heap.size (fun _ => True) (.slice Ao14 x6_1.length co14) x6_1) ∧ Aside0 (Below w.heap.size w wc))
                  case first =>
                    have H := HC12.out
                    clear HC12
                    by_cases c15 : (x6_1.length : Int) > 0
                    · rw [if_pos c15] at H
                      have c15b0 : decide (0 < (x6_1.length : Int)) = true := decide_eq_true c15
                      have c15b1 : decide (0 < x6_1.length) = true := decide_eq_true (by omega)
                      (first | rw [c15b0] | (simp only [i64_w, i32_w]; rw [c15b0]) | skip)
                      by_cases c16 : x7_1.size + 1 ≤ 9223372036854775807
                      · rw [if_pos c16] at H
                        have c16b0 := eq_true c16
                        have c16b1 : decide (x7_1.size + 1 ≤ 9223372036854775807) = true := decide_eq_true c16
                        try have c16b2 : (9223372036854775807 < x7_1.size + 1) = False := eq_false (Nat.not_lt.2 c16)
                        have H' := Aside0.mk H
                        clear H
                        go_wp2
                        all_goals (try (exfalso; omega))
                        go_meet
                        case rel => exact ⟨_, (x7_1 ++ (⟨#[44]⟩ : ByteArray)), (by first | rfl | (simp; done) | (simp [*]; done)), H', ⟨by have := HK1.out; have := HJ4.out; first | omega | exact Nat.le_refl _⟩, ⟨by (with_reducible repeat (first | apply Kd.R_alloc | apply Kd.R_drewN | apply Kd.R_drew)); exact HO_6.out⟩, ⟨by repeat (first | (with_reducible first | exact HB.out | apply below_alloc | apply pw_below_drewN | apply below_drew1) | exact HB.out)⟩⟩
                      · rw [if_neg c16] at H
                        exact absurd H (by simp)
                    · rw [if_neg c15] at H
                      have c15b0 : decide (0 < (x6_1.length : Int)) = false := decide_eq_false c15
                      have c15b1 : decide (0 < x6_1.length) = false := decide_eq_false (by omega)
                      (first | rw [c15b0] | (simp only [i64_w, i32_w]; rw [c15b0]) | skip)
                      have H' := Aside0.mk H
                      clear H
                      go_wp2
                      all_goals (try (exfalso; omega))
                      go_meet
                      case rel => exact ⟨_, (x7_1), (by first | rfl | (simp; done) | (simp [*]; done)), H', ⟨by have := HK1.out; have := HJ4.out; first | omega | exact Nat.le_refl _⟩, ⟨by (with_reducible repeat (first | apply Kd.R_alloc | apply Kd.R_drewN | apply Kd.R_drew)); exact HO_6.out⟩, ⟨by repeat (first | (with_reducible first | exact HB.out | apply below_alloc | apply pw_below_drewN | apply below_drew1) | exact HB.out)⟩⟩
                  case rest =>
                    clear HC12
                    try clear c1
                    try clear p1
                    try clear q1
                    try clear hx1
                    try clear p2
                    try clear c4
                    try clear c6
                    try clear c6b0
                    try clear p6
                    try clear c7
                    try clear c8
                    try clear c8b0
                    try clear c9
                    try clear c9b0
                    try clear c10
                    try clear c11
                    try clear c15
                    try clear c15b0
                    try clear c15b1
                    try clear c16
                    try clear c16b0
                    try clear c16b1
                    try clear c16b2
                    try clear p16
                    try clear q16
                    try clear hx16
                    try clear hx165_0
                    try clear p165
                    try clear p2
                    try clear q165
                    obtain ⟨kq, x7_11, rfl, HA, HJ11, HO_6, HB⟩ := hcut
                    cases kq with
                    | zero => exact absurd HA.out (by simp [transeptlaw09_TokenJoins.j2])
                    | succ kj11 =>
                      have H := HA.out
                      clear HA
                      simp only [transeptlaw09_TokenJoins.j2] at H
                      have HC17 := Aside0.mk H
                      clear H
                      go_upto_region 11 with (fail)
                      go_cut [42] (fun v42 wc => ∃ (kq : Nat) (x42_16 : Bool), v42 = .bool x42_16 ∧ Aside0 (transeptlaw09_TokenJoins.j3 kq l0 l1 t164 x6_1 x7_11 x8_1 x42_16 = some r) ∧ Aside0 (kq ≤ kj11) ∧ Aside0 (Kd.R Kd.string 9 wc w.heap.size (fun _ => True) (.slice Ao14 x6_1.length co14) x6_1) ∧ Aside0 (Below w.heap.size w wc))
                      case first =>
                        have H := HC17.out
                        clear HC17
                        by_cases c18 : x8_1 < (l1.length : Int)
                        · rw [if_pos c18] at H
                          have c18b0 : decide (x8_1 < (l1.length : Int)) = true := decide_eq_true c18
                          (first | rw [c18b0] | (simp only [i64_w, i32_w]; rw [c18b0]) | skip)
                          by_cases c19 : 0 ≤ x8_1
                          · rw [if_pos c19] at H
                            have c19b0 : decide (0 ≤ x8_1) = true := decide_eq_true c19
                            have H' := Aside0.mk H
                            clear H
                            have p167 : 0 ≤ (x8_1 : Int) := of_decide_eq_true (by first | (with_reducible assumption) | assumption)
                            have q167 : x8_1 < (l1.length : Int) := of_decide_eq_true (by first | (with_reducible assumption) | assumption)
                            obtain ⟨ad167, e167, hx167_0⟩ := Kd.at_bool HR1.out x8_1 p167 q167
                            cases e167
                            replace hx167_0 := (HB.out.cell (World.block_lt_of_cell? w _ hx167_0)).trans hx167_0
                            replace p167 := eq_true p167
                            replace q167 := eq_true q167
                            go_wp2
                            all_goals (try (exfalso; omega))
                            go_meet
                            case rel => exact ⟨_, (rdOf false l1 x8_1), (by first | rfl | (simp; done) | (simp [*]; done)), H', ⟨by have := HK1.out; have := HJ4.out; have := HJ11.out; first | omega | exact Nat.le_refl _⟩, ⟨by (with_reducible repeat (first | apply Kd.R_alloc | apply Kd.R_drewN | apply Kd.R_drew)); exact HO_6.out⟩, ⟨by repeat (first | (with_reducible first | exact HB.out | apply below_alloc | apply pw_below_drewN | apply below_drew1) | exact HB.out)⟩⟩
                          · rw [if_neg c19] at H
                            exact absurd H (by simp)
                        · rw [if_neg c18] at H
                          have c18b0 : decide (x8_1 < (l1.length : Int)) = false := decide_eq_false c18
                          (first | rw [c18b0] | (simp only [i64_w, i32_w]; rw [c18b0]) | skip)
                          have H' := Aside0.mk H
                          clear H
                          go_wp2
                          all_goals (try (exfalso; omega))
                          go_meet
                          case rel => exact ⟨_, (false), (by first | rfl | (simp; done) | (simp [*]; done)), H', ⟨by have := HK1.out; have := HJ4.out; have := HJ11.out; first | omega | exact Nat.le_refl _⟩, ⟨by (with_reducible repeat (first | apply Kd.R_alloc | apply Kd.R_drewN | apply Kd.R_drew)); exact HO_6.out⟩, ⟨by repeat (first | (with_reducible first | exact HB.out | apply below_alloc | apply pw_below_drewN | apply below_drew1) | exact HB.out)⟩⟩
                      case rest =>
                        clear HC17
                        try clear c1
                        try clear p1
                        try clear q1
                        try clear hx1
                        try clear p2
                        try clear c4
                        try clear c6
                        try clear c6b0
                        try clear p6
                        try clear c7
                        try clear c8
                        try clear c8b0
                        try clear c9
                        try clear c9b0
                        try clear c10
                        try clear c11
                        try clear c15
                        try clear c15b0
                        try clear c15b1
                        try clear c16
                        try clear c16b0
                        try clear c16b1
                        try clear c16b2
                        try clear p16
                        try clear q16
                        try clear hx16
                        try clear c18
                        try clear c18b0
                        try clear c19
                        try clear c19b0
                        try clear hx165_0
                        try clear hx167_0
                        try clear p1
                        try clear p16
                        try clear p165
                        try clear p167
                        try clear p2
                        try clear p6
                        try clear q1
                        try clear q16
                        try clear q165
                        try clear q167
                        obtain ⟨kq, x42_16, rfl, HA, HJ16, HO_6, HB⟩ := hcut
                        cases kq with
                        | zero => exact absurd HA.out (by simp [transeptlaw09_TokenJoins.j3])
                        | succ kj16 =>
                          have H := HA.out
                          clear HA
                          simp only [transeptlaw09_TokenJoins.j3] at H
                          by_cases c20 : x42_16 = true
                          · subst c20
                            have H1 : (if x7_11.size + 2 ≤ 9223372036854775807 then (if 0 ≤ x8_1 then (if x8_1 < (l0.length : Int) then (if (x7_11 ++ (⟨#[32, 9]⟩ : ByteArray)).size + (rdOf ByteArray.empty l0 x8_1).size ≤ 9223372036854775807 then (if (l1.length : Int) > (wrap64 (2 * x8_1)) then (if 0 ≤ (wrap64 (2 * x8_1)) then (if (wrap64 (2 * x8_1)) < (l1.length : Int) then (if rdOf false l1 (wrap64 (2 * x8_1)) = true then (if ((x7_11 ++ (⟨#[32, 9]⟩ : ByteArray)) ++ (rdOf ByteArray.empty l0 x8_1)).size + 1 ≤ 9223372036854775807 then (if x6_1.length < 8796093022208 then (transeptlaw09_TokenJoins.l0 kj16 l0 l1 t164 (x6_1 ++ [rdOf ByteArray.empty l0 x8_1]) (((x7_11 ++ (⟨#[32, 9]⟩ : ByteArray)) ++ (rdOf ByteArray.empty l0 x8_1)) ++ (⟨#[32]⟩ : ByteArray)) (wrap64 (x8_1 + 1))) else (none)) else (none)) else (if x6_1.length < 8796093022208 then (transeptlaw09_TokenJoins.l0 kj16 l0 l1 t164 (x6_1 ++ [rdOf ByteArray.empty l0 x8_1]) ((x7_11 ++ (⟨#[32, 9]⟩ : ByteArray)) ++ (rdOf ByteArray.empty l0 x8_1)) (wrap64 (x8_1 + 1))) else (none))) else (none)) else (none)) else (if x6_1.length < 8796093022208 then (transeptlaw09_TokenJoins.l0 kj16 l0 l1 t164 (x6_1 ++ [rdOf ByteArray.empty l0 x8_1]) ((x7_11 ++ (⟨#[32, 9]⟩ : ByteArray)) ++ (rdOf ByteArray.empty l0 x8_1)) (wrap64 (x8_1 + 1))) else (none))) else (none)) else (none)) else (none)) else (none)) = some r := by rw [if_pos rfl] at H; exact H
                            clear H
                            have H := H1
                            clear H1
                            by_cases c21 : x7_11.size + 2 ≤ 9223372036854775807
                            · rw [if_pos c21] at H
                              have c21b0 := eq_true c21
                              have c21b1 : decide (x7_11.size + 2 ≤ 9223372036854775807) = true := decide_eq_true c21
                              try have c21b2 : (9223372036854775807 < x7_11.size + 2) = False := eq_false (Nat.not_lt.2 c21)
                              by_cases c22 : 0 ≤ x8_1
                              · rw [if_pos c22] at H
                                have c22b0 : decide (0 ≤ x8_1) = true := decide_eq_true c22
                                by_cases c23 : x8_1 < (l0.length : Int)
                                · rw [if_pos c23] at H
                                  have c23b0 : decide (x8_1 < (l0.length : Int)) = true := decide_eq_true c23
                                  by_cases c24 : (x7_11 ++ (⟨#[32, 9]⟩ : ByteArray)).size + (rdOf ByteArray.empty l0 x8_1).size ≤ 9223372036854775807
                                  · rw [if_pos c24] at H
                                    (try (have c24x := c24; simp only [ByteArray.size_append, show (⟨#[32, 9]⟩ : ByteArray).size = 2 from rfl] at c24x))
                                    have c24b0 := eq_true c24
                                    have c24b1 : decide ((x7_11 ++ (⟨#[32, 9]⟩ : ByteArray)).size + (rdOf ByteArray.empty l0 x8_1).size ≤ 9223372036854775807) = true := decide_eq_true c24
                                    try have c24b2 : (9223372036854775807 < (x7_11 ++ (⟨#[32, 9]⟩ : ByteArray)).size + (rdOf ByteArray.empty l0 x8_1).size) = False := eq_false (Nat.not_lt.2 c24)
                                    by_cases c25 : (l1.length : Int) > (wrap64 (2 * x8_1))
                                    · rw [if_pos c25] at H
                                      have c25b0 : decide ((wrap64 (2 * x8_1)) < (l1.length : Int)) = true := decide_eq_true c25
                                      obtain ⟨ji26, hji26⟩ : ∃ j_ : Int, (wrap64 (2 * x8_1)) = j_ := ⟨_, rfl⟩
                                      replace H : (if 0 ≤ (ji26) then (if (ji26) < (l1.length : Int) then (if rdOf false l1 (ji26) = true then (if ((x7_11 ++ (⟨#[32, 9]⟩ : ByteArray)) ++ (rdOf ByteArray.empty l0 x8_1)).size + 1 ≤ 9223372036854775807 then (if x6_1.length < 8796093022208 then (transeptlaw09_TokenJoins.l0 kj16 l0 l1 t164 (x6_1 ++ [rdOf ByteArray.empty l0 x8_1]) (((x7_11 ++ (⟨#[32, 9]⟩ : ByteArray)) ++ (rdOf ByteArray.empty l0 x8_1)) ++ (⟨#[32]⟩ : ByteArray)) (wrap64 (x8_1 + 1))) else (none)) else (none)) else (if x6_1.length < 8796093022208 then (transeptlaw09_TokenJoins.l0 kj16 l0 l1 t164 (x6_1 ++ [rdOf ByteArray.empty l0 x8_1]) ((x7_11 ++ (⟨#[32, 9]⟩ : ByteArray)) ++ (rdOf ByteArray.empty l0 x8_1)) (wrap64 (x8_1 + 1))) else (none))) else (none)) else (none)) = some r := by first | (rw [hji26] at H; exact H) | (simp only [hji26] at H ⊢; exact H)
                                      (try rw [hji26] at c25b0)
                                      have hji26w : (IntKind.i64.wrap (2 * x8_1)) = ji26 := (i64_w _).trans hji26
                                      by_cases c27 : 0 ≤ (ji26)
                                      · rw [if_pos c27] at H
                                        have c27b0 : decide (0 ≤ (ji26)) = true := decide_eq_true c27
                                        by_cases c28 : (ji26) < (l1.length : Int)
                                        · rw [if_pos c28] at H
                                          have c28b0 : decide ((ji26) < (l1.length : Int)) = true := decide_eq_true c28
                                          obtain ⟨bq29, hbq29⟩ : ∃ b_ : Bool, b_ = (rdOf false l1 (ji26)) := ⟨_, rfl⟩
                                          replace H : (if bq29 = true then (if ((x7_11 ++ (⟨#[32, 9]⟩ : ByteArray)) ++ (rdOf ByteArray.empty l0 x8_1)).size + 1 ≤ 9223372036854775807 then (if x6_1.length < 8796093022208 then (transeptlaw09_TokenJoins.l0 kj16 l0 l1 t164 (x6_1 ++ [rdOf ByteArray.empty l0 x8_1]) (((x7_11 ++ (⟨#[32, 9]⟩ : ByteArray)) ++ (rdOf ByteArray.empty l0 x8_1)) ++ (⟨#[32]⟩ : ByteArray)) (wrap64 (x8_1 + 1))) else (none)) else (none)) else (if x6_1.length < 8796093022208 then (transeptlaw09_TokenJoins.l0 kj16 l0 l1 t164 (x6_1 ++ [rdOf ByteArray.empty l0 x8_1]) ((x7_11 ++ (⟨#[32, 9]⟩ : ByteArray)) ++ (rdOf ByteArray.empty l0 x8_1)) (wrap64 (x8_1 + 1))) else (none))) = some r := by rw [← hbq29] at H; exact H
                                          have Nbq29 := Aside0.mk hbq29
                                          clear hbq29
                                          by_cases c30 : bq29 = true
                                          · subst c30
                                            have H1 : (if ((x7_11 ++ (⟨#[32, 9]⟩ : ByteArray)) ++ (rdOf ByteArray.empty l0 x8_1)).size + 1 ≤ 9223372036854775807 then (if x6_1.length < 8796093022208 then (transeptlaw09_TokenJoins.l0 kj16 l0 l1 t164 (x6_1 ++ [rdOf ByteArray.empty l0 x8_1]) (((x7_11 ++ (⟨#[32, 9]⟩ : ByteArray)) ++ (rdOf ByteArray.empty l0 x8_1)) ++ (⟨#[32]⟩ : ByteArray)) (wrap64 (x8_1 + 1))) else (none)) else (none)) = some r := by rw [if_pos rfl] at H; exact H
                                            clear H
                                            have H := H1
                                            clear H1
                                            by_cases c31 : ((x7_11 ++ (⟨#[32, 9]⟩ : ByteArray)) ++ (rdOf ByteArray.empty l0 x8_1)).size + 1 ≤ 9223372036854775807
                                            · rw [if_pos c31] at H
                                              (try (have c31x := c31; simp only [ByteArray.size_append, show (⟨#[32, 9]⟩ : ByteArray).size = 2 from rfl] at c31x))
                                              have c31b0 := eq_true c31
                                              have c31b1 : decide (((x7_11 ++ (⟨#[32, 9]⟩ : ByteArray)) ++ (rdOf ByteArray.empty l0 x8_1)).size + 1 ≤ 9223372036854775807) = true := decide_eq_true c31
                                              try have c31b2 : (9223372036854775807 < ((x7_11 ++ (⟨#[32, 9]⟩ : ByteArray)) ++ (rdOf ByteArray.empty l0 x8_1)).size + 1) = False := eq_false (Nat.not_lt.2 c31)
                                              by_cases c32 : x6_1.length < 8796093022208
                                              · rw [if_pos c32] at H
                                                have LMc32 := Aside0.mk c32
                                                obtain ⟨y171, hy171⟩ : ∃ y_ : List ByteArray, y_ = (x6_1 ++ [rdOf ByteArray.empty l0 x8_1]) := ⟨_, rfl⟩
                                                replace H : (transeptlaw09_TokenJoins.l0 kj16 l0 l1 t164 y171 (((x7_11 ++ (⟨#[32, 9]⟩ : ByteArray)) ++ (rdOf ByteArray.empty l0 x8_1)) ++ (⟨#[32]⟩ : ByteArray)) (wrap64 (x8_1 + 1))) = some r := by first | (rw [hy171]; with_reducible exact H) | (have H2_ := (Option.bind_some _ _).symm.trans H; rw [hy171]; with_reducible exact H2_) | (have H2_ := (Option.bind_some _ _).symm.trans H; with_reducible exact H2_) | with_reducible exact H | (rw [hy171]; exact H) | exact H
                                                have Ny171 := Aside0.mk hy171
                                                clear hy171
                                                have H' := Aside0.mk H
                                                clear H
                                                have p168 : 0 ≤ (x8_1 : Int) := of_decide_eq_true (by first | (with_reducible assumption) | assumption)
                                                have q168 : x8_1 < (l0.length : Int) := of_decide_eq_true (by first | (with_reducible assumption) | assumption)
                                                obtain ⟨ad168, e168, hx168_0⟩ := Kd.at_string HR0.out x8_1 p168 q168
                                                obtain rfl : ad165 = ad168 := (by injection e168)
                                                replace hx168_0 := (HB.out.cell (World.block_lt_of_cell? w _ hx168_0)).trans hx168_0
                                                replace p168 := eq_true p168
                                                replace q168 := eq_true q168
                                                have p169 : 0 ≤ ((ji26) : Int) := of_decide_eq_true (by first | (with_reducible assumption) | assumption)
                                                have q169 : (ji26) < (l1.length : Int) := of_decide_eq_true (by first | (with_reducible assumption) | assumption)
                                                obtain ⟨ad169, e169, hx169_0⟩ := Kd.at_bool HR1.out (ji26) p169 q169
                                                (try rw [← Nbq29.out] at hx169_0)
                                                cases e169
                                                replace hx169_0 := (HB.out.cell (World.block_lt_of_cell? w _ hx169_0)).trans hx169_0
                                                replace p169 := eq_true p169
                                                replace q169 := eq_true q169
                                                have p170 : 0 ≤ (x8_1 : Int) := of_decide_eq_true (by first | (with_reducible assumption) | assumption)
                                                have q170 : x8_1 < (l0.length : Int) := of_decide_eq_true (by first | (with_reducible assumption) | assumption)
                                                obtain ⟨ad170, e170, hx170_0⟩ := Kd.at_string HR0.out x8_1 p170 q170
                                                obtain rfl : ad165 = ad170 := (by injection e170)
                                                replace hx170_0 := (HB.out.cell (World.block_lt_of_cell? w _ hx170_0)).trans hx170_0
                                                replace p170 := eq_true p170
                                                replace q170 := eq_true q170
                                                go_wp2_with (first | ((with_reducible refine gate_builtin (b := .append) (xs := #[.tmp 65, .tmp 70]) rfl ?_); at_builtin; refine Kd.R_append Kd.string (w0 := w) w.heap.size rfl (.tmp 65) (.tmp 70) 26 9 (.string ⟨#[]⟩) 16 rfl Tryd.underlying26 info9 rfl (by decide) (by omega) (.slice Ao14 x6_1.length co14) x6_1 (rdOf ByteArray.empty l0 x8_1) [.string (rdOf ByteArray.empty l0 x8_1)] (fun _ => True) (fun _ => False) rfl rfl ?aP (fun _ hk => hk.elim) ?aF ?aO ?aB ?aS ?aL ?_; (case aP => exact rfl); (case aB => exact (by repeat (first | (with_reducible first | exact HB.out | apply below_alloc | apply pw_below_drewN | apply below_drew1) | exact HB.out))); (case aF => exact (fun _ _ => trivial)); (case aO => exact (by (with_reducible repeat (first | apply Kd.R_alloc | apply Kd.R_drewN | apply Kd.R_drew)); exact HO_6.out)); (case aS => exact (below_size (by repeat (first | (with_reducible first | exact HB.out | apply below_alloc | apply pw_below_drewN | apply below_drew1) | exact HB.out)))); (case aL => have := LMc32.out; omega); intro v172 w33 ho hb hg hat; rw [← Ny171.out] at ho; have n0_ := Aside0.mk (hb); have n1_ := Aside0.mk (ho); clear HB; clear HO_6; have HB := n0_; have HO173 := n1_; clear n0_ n1_; clear ho hb hg hat))
                                                all_goals (try (exfalso; omega))
                                                go_roundg kj16
                                                case measure => have := HK1.out; have := HJ4.out; have := HJ11.out; have := HJ16.out; omega
                                                case rel => exact ⟨(y171), (((x7_11 ++ (⟨#[32, 9]⟩ : ByteArray)) ++ (rdOf ByteArray.empty l0 x8_1)) ++ (⟨#[32]⟩ : ByteArray)), (wrap64 (x8_1 + 1)), (by first | rfl | (simp; done) | (simp [*]; done)), (by first | rfl | (simp; done) | (simp [*]; done)), H', ⟨by have := HK1.out; have := HJ4.out; have := HJ11.out; have := HJ16.out; omega⟩, ⟨by (with_reducible repeat (first | apply Kd.R_alloc | apply Kd.R_drewN | apply Kd.R_drew)); exact HO173.out⟩, ⟨by repeat (first | (with_reducible first | exact HB.out | apply below_alloc | apply pw_below_drewN | apply below_drew1) | exact HB.out)⟩⟩
                                              · rw [if_neg c32] at H
                                                exact absurd H (by simp)
                                            · rw [if_neg c31] at H
                                              (try (have c31x := c31; simp only [ByteArray.size_append, show (⟨#[32, 9]⟩ : ByteArray).size = 2 from rfl] at c31x))
                                              exact absurd H (by simp)
                                          · replace c30 := Bool.eq_false_iff.mpr c30
                                            subst c30
                                            have H1 : (if x6_1.length < 8796093022208 then (transeptlaw09_TokenJoins.l0 kj16 l0 l1 t164 (x6_1 ++ [rdOf ByteArray.empty l0 x8_1]) ((x7_11 ++ (⟨#[32, 9]⟩ : ByteArray)) ++ (rdOf ByteArray.empty l0 x8_1)) (wrap64 (x8_1 + 1))) else (none)) = some r := by rw [if_neg (show ¬ (false = true) by decide)] at H; exact H
                                            clear H
                                            have H := H1
                                            clear H1
                                            by_cases c34 : x6_1.length < 8796093022208
                                            · rw [if_pos c34] at H
                                              have LMc34 := Aside0.mk c34
                                              obtain ⟨y175, hy175⟩ : ∃ y_ : List ByteArray, y_ = (x6_1 ++ [rdOf ByteArray.empty l0 x8_1]) := ⟨_, rfl⟩
                                              replace H : (transeptlaw09_TokenJoins.l0 kj16 l0 l1 t164 y175 ((x7_11 ++ (⟨#[32, 9]⟩ : ByteArray)) ++ (rdOf ByteArray.empty l0 x8_1)) (wrap64 (x8_1 + 1))) = some r := by first | (rw [hy175]; with_reducible exact H) | (have H2_ := (Option.bind_some _ _).symm.trans H; rw [hy175]; with_reducible exact H2_) | (have H2_ := (Option.bind_some _ _).symm.trans H; with_reducible exact H2_) | with_reducible exact H | (rw [hy175]; exact H) | exact H
                                              have Ny175 := Aside0.mk hy175
                                              clear hy175
                                              have H' := Aside0.mk H
                                              clear H
                                              have p168 : 0 ≤ (x8_1 : Int) := of_decide_eq_true (by first | (with_reducible assumption) | assumption)
                                              have q168 : x8_1 < (l0.length : Int) := of_decide_eq_true (by first | (with_reducible assumption) | assumption)
                                              obtain ⟨ad168, e168, hx168_0⟩ := Kd.at_string HR0.out x8_1 p168 q168
                                              obtain rfl : ad165 = ad168 := (by injection e168)
                                              replace hx168_0 := (HB.out.cell (World.block_lt_of_cell? w _ hx168_0)).trans hx168_0
                                              replace p168 := eq_true p168
                                              replace q168 := eq_true q168
                                              have p169 : 0 ≤ ((ji26) : Int) := of_decide_eq_true (by first | (with_reducible assumption) | assumption)
                                              have q169 : (ji26) < (l1.length : Int) := of_decide_eq_true (by first | (with_reducible assumption) | assumption)
                                              obtain ⟨ad169, e169, hx169_0⟩ := Kd.at_bool HR1.out (ji26) p169 q169
                                              (try rw [← Nbq29.out] at hx169_0)
                                              cases e169
                                              replace hx169_0 := (HB.out.cell (World.block_lt_of_cell? w _ hx169_0)).trans hx169_0
                                              replace p169 := eq_true p169
                                              replace q169 := eq_true q169
                                              have p174 : 0 ≤ (x8_1 : Int) := of_decide_eq_true (by first | (with_reducible assumption) | assumption)
                                              have q174 : x8_1 < (l0.length : Int) := of_decide_eq_true (by first | (with_reducible assumption) | assumption)
                                              obtain ⟨ad174, e174, hx174_0⟩ := Kd.at_string HR0.out x8_1 p174 q174
                                              obtain rfl : ad165 = ad174 := (by injection e174)
                                              replace hx174_0 := (HB.out.cell (World.block_lt_of_cell? w _ hx174_0)).trans hx174_0
                                              replace p174 := eq_true p174
                                              replace q174 := eq_true q174
                                              go_wp2_with (first | ((with_reducible refine gate_builtin (b := .append) (xs := #[.tmp 65, .tmp 70]) rfl ?_); at_builtin; refine Kd.R_append Kd.string (w0 := w) w.heap.size rfl (.tmp 65) (.tmp 70) 26 9 (.string ⟨#[]⟩) 16 rfl Tryd.underlying26 info9 rfl (by decide) (by omega) (.slice Ao14 x6_1.length co14) x6_1 (rdOf ByteArray.empty l0 x8_1) [.string (rdOf ByteArray.empty l0 x8_1)] (fun _ => True) (fun _ => False) rfl rfl ?aP (fun _ hk => hk.elim) ?aF ?aO ?aB ?aS ?aL ?_; (case aP => exact rfl); (case aB => exact (by repeat (first | (with_reducible first | exact HB.out | apply below_alloc | apply pw_below_drewN | apply below_drew1) | exact HB.out))); (case aF => exact (fun _ _ => trivial)); (case aO => exact (by (with_reducible repeat (first | apply Kd.R_alloc | apply Kd.R_drewN | apply Kd.R_drew)); exact HO_6.out)); (case aS => exact (below_size (by repeat (first | (with_reducible first | exact HB.out | apply below_alloc | apply pw_below_drewN | apply below_drew1) | exact HB.out)))); (case aL => have := LMc34.out; omega); intro v176 w35 ho hb hg hat; rw [← Ny175.out] at ho; have n0_ := Aside0.mk (hb); have n1_ := Aside0.mk (ho); clear HB; clear HO_6; have HB := n0_; have HO177 := n1_; clear n0_ n1_; clear ho hb hg hat))
                                              all_goals (try (exfalso; omega))
                                              go_roundg kj16
                                              case measure => have := HK1.out; have := HJ4.out; have := HJ11.out; have := HJ16.out; omega
                                              case rel => exact ⟨(y175), ((x7_11 ++ (⟨#[32, 9]⟩ : ByteArray)) ++ (rdOf ByteArray.empty l0 x8_1)), (wrap64 (x8_1 + 1)), (by first | rfl | (simp; done) | (simp [*]; done)), (by first | rfl | (simp; done) | (simp [*]; done)), H', ⟨by have := HK1.out; have := HJ4.out; have := HJ11.out; have := HJ16.out; omega⟩, ⟨by (with_reducible repeat (first | apply Kd.R_alloc | apply Kd.R_drewN | apply Kd.R_drew)); exact HO177.out⟩, ⟨by repeat (first | (with_reducible first | exact HB.out | apply below_alloc | apply pw_below_drewN | apply below_drew1) | exact HB.out)⟩⟩
                                            · rw [if_neg c34] at H
                                              exact absurd H (by simp)
                                        · rw [if_neg c28] at H
                                          exact absurd H (by simp)
                                      · rw [if_neg c27] at H
                                        exact absurd H (by simp)
                                    · rw [if_neg c25] at H
                                      have c25b0 : decide ((wrap64 (2 * x8_1)) < (l1.length : Int)) = false := decide_eq_false c25
                                      by_cases c36 : x6_1.length < 8796093022208
                                      · rw [if_pos c36] at H
                                        have LMc36 := Aside0.mk c36
                                        obtain ⟨y179, hy179⟩ : ∃ y_ : List ByteArray, y_ = (x6_1 ++ [rdOf ByteArray.empty l0 x8_1]) := ⟨_, rfl⟩
                                        replace H : (transeptlaw09_TokenJoins.l0 kj16 l0 l1 t164 y179 ((x7_11 ++ (⟨#[32, 9]⟩ : ByteArray)) ++ (rdOf ByteArray.empty l0 x8_1)) (wrap64 (x8_1 + 1))) = some r := by first | (rw [hy179]; with_reducible exact H) | (have H2_ := (Option.bind_some _ _).symm.trans H; rw [hy179]; with_reducible exact H2_) | (have H2_ := (Option.bind_some _ _).symm.trans H; with_reducible exact H2_) | with_reducible exact H | (rw [hy179]; exact H) | exact H
                                        have Ny179 := Aside0.mk hy179
                                        clear hy179
                                        have H' := Aside0.mk H
                                        clear H
                                        have p168 : 0 ≤ (x8_1 : Int) := of_decide_eq_true (by first | (with_reducible assumption) | assumption)
                                        have q168 : x8_1 < (l0.length : Int) := of_decide_eq_true (by first | (with_reducible assumption) | assumption)
                                        obtain ⟨ad168, e168, hx168_0⟩ := Kd.at_string HR0.out x8_1 p168 q168
                                        obtain rfl : ad165 = ad168 := (by injection e168)
                                        replace hx168_0 := (HB.out.cell (World.block_lt_of_cell? w _ hx168_0)).trans hx168_0
                                        replace p168 := eq_true p168
                                        replace q168 := eq_true q168
                                        have p178 : 0 ≤ (x8_1 : Int) := of_decide_eq_true (by first | (with_reducible assumption) | assumption)
                                        have q178 : x8_1 < (l0.length : Int) := of_decide_eq_true (by first | (with_reducible assumption) | assumption)
                                        obtain ⟨ad178, e178, hx178_0⟩ := Kd.at_string HR0.out x8_1 p178 q178
                                        obtain rfl : ad165 = ad178 := (by injection e178)
                                        replace hx178_0 := (HB.out.cell (World.block_lt_of_cell? w _ hx178_0)).trans hx178_0
                                        replace p178 := eq_true p178
                                        replace q178 := eq_true q178
                                        go_wp2_with (first | ((with_reducible refine gate_builtin (b := .append) (xs := #[.tmp 65, .tmp 70]) rfl ?_); at_builtin; refine Kd.R_append Kd.string (w0 := w) w.heap.size rfl (.tmp 65) (.tmp 70) 26 9 (.string ⟨#[]⟩) 16 rfl Tryd.underlying26 info9 rfl (by decide) (by omega) (.slice Ao14 x6_1.length co14) x6_1 (rdOf ByteArray.empty l0 x8_1) [.string (rdOf ByteArray.empty l0 x8_1)] (fun _ => True) (fun _ => False) rfl rfl ?aP (fun _ hk => hk.elim) ?aF ?aO ?aB ?aS ?aL ?_; (case aP => exact rfl); (case aB => exact (by repeat (first | (with_reducible first | exact HB.out | apply below_alloc | apply pw_below_drewN | apply below_drew1) | exact HB.out))); (case aF => exact (fun _ _ => trivial)); (case aO => exact (by (with_reducible repeat (first | apply Kd.R_alloc | apply Kd.R_drewN | apply Kd.R_drew)); exact HO_6.out)); (case aS => exact (below_size (by repeat (first | (with_reducible first | exact HB.out | apply below_alloc | apply pw_below_drewN | apply below_drew1) | exact HB.out)))); (case aL => have := LMc36.out; omega); intro v180 w37 ho hb hg hat; rw [← Ny179.out] at ho; have n0_ := Aside0.mk (hb); have n1_ := Aside0.mk (ho); clear HB; clear HO_6; have HB := n0_; have HO181 := n1_; clear n0_ n1_; clear ho hb hg hat))
                                        all_goals (try (exfalso; omega))
                                        go_roundg kj16
                                        case measure => have := HK1.out; have := HJ4.out; have := HJ11.out; have := HJ16.out; omega
                                        case rel => exact ⟨(y179), ((x7_11 ++ (⟨#[32, 9]⟩ : ByteArray)) ++ (rdOf ByteArray.empty l0 x8_1)), (wrap64 (x8_1 + 1)), (by first | rfl | (simp; done) | (simp [*]; done)), (by first | rfl | (simp; done) | (simp [*]; done)), H', ⟨by have := HK1.out; have := HJ4.out; have := HJ11.out; have := HJ16.out; omega⟩, ⟨by (with_reducible repeat (first | apply Kd.R_alloc | apply Kd.R_drewN | apply Kd.R_drew)); exact HO181.out⟩, ⟨by repeat (first | (with_reducible first | exact HB.out | apply below_alloc | apply pw_below_drewN | apply below_drew1) | exact HB.out)⟩⟩
                                      · rw [if_neg c36] at H
                                        exact absurd H (by simp)
                                  · rw [if_neg c24] at H
                                    (try (have c24x := c24; simp only [ByteArray.size_append, show (⟨#[32, 9]⟩ : ByteArray).size = 2 from rfl] at c24x))
                                    exact absurd H (by simp)
                                · rw [if_neg c23] at H
                                  exact absurd H (by simp)
                              · rw [if_neg c22] at H
                                exact absurd H (by simp)
                            · rw [if_neg c21] at H
                              exact absurd H (by simp)
                          · replace c20 := Bool.eq_false_iff.mpr c20
                            subst c20
                            have H1 : (if 0 ≤ x8_1 then (if x8_1 < (l0.length : Int) then (if x7_11.size + (rdOf ByteArray.empty l0 x8_1).size ≤ 9223372036854775807 then (if (l1.length : Int) > (wrap64 (2 * x8_1)) then (if 0 ≤ (wrap64 (2 * x8_1)) then (if (wrap64 (2 * x8_1)) < (l1.length : Int) then (if rdOf false l1 (wrap64 (2 * x8_1)) = true then (if (x7_11 ++ (rdOf ByteArray.empty l0 x8_1)).size + 1 ≤ 9223372036854775807 then (if x6_1.length < 8796093022208 then (transeptlaw09_TokenJoins.l0 kj16 l0 l1 t164 (x6_1 ++ [rdOf ByteArray.empty l0 x8_1]) ((x7_11 ++ (rdOf ByteArray.empty l0 x8_1)) ++ (⟨#[32]⟩ : ByteArray)) (wrap64 (x8_1 + 1))) else (none)) else (none)) else (if x6_1.length < 8796093022208 then (transeptlaw09_TokenJoins.l0 kj16 l0 l1 t164 (x6_1 ++ [rdOf ByteArray.empty l0 x8_1]) (x7_11 ++ (rdOf ByteArray.empty l0 x8_1)) (wrap64 (x8_1 + 1))) else (none))) else (none)) else (none)) else (if x6_1.length < 8796093022208 then (transeptlaw09_TokenJoins.l0 kj16 l0 l1 t164 (x6_1 ++ [rdOf ByteArray.empty l0 x8_1]) (x7_11 ++ (rdOf ByteArray.empty l0 x8_1)) (wrap64 (x8_1 + 1))) else (none))) else (none)) else (none)) else (none)) = some r := by rw [if_neg (show ¬ (false = true) by decide)] at H; exact H
                            clear H
                            have H := H1
                            clear H1
                            by_cases c38 : 0 ≤ x8_1
                            · rw [if_pos c38] at H
                              have c38b0 : decide (0 ≤ x8_1) = true := decide_eq_true c38
                              by_cases c39 : x8_1 < (l0.length : Int)
                              · rw [if_pos c39] at H
                                have c39b0 : decide (x8_1 < (l0.length : Int)) = true := decide_eq_true c39
                                by_cases c40 : x7_11.size + (rdOf ByteArray.empty l0 x8_1).size ≤ 9223372036854775807
                                · rw [if_pos c40] at H
                                  have c40b0 := eq_true c40
                                  have c40b1 : decide (x7_11.size + (rdOf ByteArray.empty l0 x8_1).size ≤ 9223372036854775807) = true := decide_eq_true c40
                                  try have c40b2 : (9223372036854775807 < x7_11.size + (rdOf ByteArray.empty l0 x8_1).size) = False := eq_false (Nat.not_lt.2 c40)
                                  by_cases c41 : (l1.length : Int) > (wrap64 (2 * x8_1))
                                  · rw [if_pos c41] at H
                                    have c41b0 : decide ((wrap64 (2 * x8_1)) < (l1.length : Int)) = true := decide_eq_true c41
                                    obtain ⟨ji42, hji42⟩ : ∃ j_ : Int, (wrap64 (2 * x8_1)) = j_ := ⟨_, rfl⟩
                                    replace H : (if 0 ≤ (ji42) then (if (ji42) < (l1.length : Int) then (if rdOf false l1 (ji42) = true then (if (x7_11 ++ (rdOf ByteArray.empty l0 x8_1)).size + 1 ≤ 9223372036854775807 then (if x6_1.length < 8796093022208 then (transeptlaw09_TokenJoins.l0 kj16 l0 l1 t164 (x6_1 ++ [rdOf ByteArray.empty l0 x8_1]) ((x7_11 ++ (rdOf ByteArray.empty l0 x8_1)) ++ (⟨#[32]⟩ : ByteArray)) (wrap64 (x8_1 + 1))) else (none)) else (none)) else (if x6_1.length < 8796093022208 then (transeptlaw09_TokenJoins.l0 kj16 l0 l1 t164 (x6_1 ++ [rdOf ByteArray.empty l0 x8_1]) (x7_11 ++ (rdOf ByteArray.empty l0 x8_1)) (wrap64 (x8_1 + 1))) else (none))) else (none)) else (none)) = some r := by first | (rw [hji42] at H; exact H) | (simp only [hji42] at H ⊢; exact H)
                                    (try rw [hji42] at c41b0)
                                    have hji42w : (IntKind.i64.wrap (2 * x8_1)) = ji42 := (i64_w _).trans hji42
                                    by_cases c43 : 0 ≤ (ji42)
                                    · rw [if_pos c43] at H
                                      have c43b0 : decide (0 ≤ (ji42)) = true := decide_eq_true c43
                                      by_cases c44 : (ji42) < (l1.length : Int)
                                      · rw [if_pos c44] at H
                                        have c44b0 : decide ((ji42) < (l1.length : Int)) = true := decide_eq_true c44
                                        obtain ⟨bq45, hbq45⟩ : ∃ b_ : Bool, b_ = (rdOf false l1 (ji42)) := ⟨_, rfl⟩
                                        replace H : (if bq45 = true then (if (x7_11 ++ (rdOf ByteArray.empty l0 x8_1)).size + 1 ≤ 9223372036854775807 then (if x6_1.length < 8796093022208 then (transeptlaw09_TokenJoins.l0 kj16 l0 l1 t164 (x6_1 ++ [rdOf ByteArray.empty l0 x8_1]) ((x7_11 ++ (rdOf ByteArray.empty l0 x8_1)) ++ (⟨#[32]⟩ : ByteArray)) (wrap64 (x8_1 + 1))) else (none)) else (none)) else (if x6_1.length < 8796093022208 then (transeptlaw09_TokenJoins.l0 kj16 l0 l1 t164 (x6_1 ++ [rdOf ByteArray.empty l0 x8_1]) (x7_11 ++ (rdOf ByteArray.empty l0 x8_1)) (wrap64 (x8_1 + 1))) else (none))) = some r := by rw [← hbq45] at H; exact H
                                        have Nbq45 := Aside0.mk hbq45
                                        clear hbq45
                                        by_cases c46 : bq45 = true
                                        · subst c46
                                          have H1 : (if (x7_11 ++ (rdOf ByteArray.empty l0 x8_1)).size + 1 ≤ 9223372036854775807 then (if x6_1.length < 8796093022208 then (transeptlaw09_TokenJoins.l0 kj16 l0 l1 t164 (x6_1 ++ [rdOf ByteArray.empty l0 x8_1]) ((x7_11 ++ (rdOf ByteArray.empty l0 x8_1)) ++ (⟨#[32]⟩ : ByteArray)) (wrap64 (x8_1 + 1))) else (none)) else (none)) = some r := by rw [if_pos rfl] at H; exact H
                                          clear H
                                          have H := H1
                                          clear H1
                                          by_cases c47 : (x7_11 ++ (rdOf ByteArray.empty l0 x8_1)).size + 1 ≤ 9223372036854775807
                                          · rw [if_pos c47] at H
                                            (try (have c47x := c47; simp only [ByteArray.size_append] at c47x))
                                            have c47b0 := eq_true c47
                                            have c47b1 : decide ((x7_11 ++ (rdOf ByteArray.empty l0 x8_1)).size + 1 ≤ 9223372036854775807) = true := decide_eq_true c47
                                            try have c47b2 : (9223372036854775807 < (x7_11 ++ (rdOf ByteArray.empty l0 x8_1)).size + 1) = False := eq_false (Nat.not_lt.2 c47)
                                            by_cases c48 : x6_1.length < 8796093022208
                                            · rw [if_pos c48] at H
                                              have LMc48 := Aside0.mk c48
                                              obtain ⟨y185, hy185⟩ : ∃ y_ : List ByteArray, y_ = (x6_1 ++ [rdOf ByteArray.empty l0 x8_1]) := ⟨_, rfl⟩
                                              replace H : (transeptlaw09_TokenJoins.l0 kj16 l0 l1 t164 y185 ((x7_11 ++ (rdOf ByteArray.empty l0 x8_1)) ++ (⟨#[32]⟩ : ByteArray)) (wrap64 (x8_1 + 1))) = some r := by first | (rw [hy185]; with_reducible exact H) | (have H2_ := (Option.bind_some _ _).symm.trans H; rw [hy185]; with_reducible exact H2_) | (have H2_ := (Option.bind_some _ _).symm.trans H; with_reducible exact H2_) | with_reducible exact H | (rw [hy185]; exact H) | exact H
                                              have Ny185 := Aside0.mk hy185
                                              clear hy185
                                              have H' := Aside0.mk H
                                              clear H
                                              have p182 : 0 ≤ (x8_1 : Int) := of_decide_eq_true (by first | (with_reducible assumption) | assumption)
                                              have q182 : x8_1 < (l0.length : Int) := of_decide_eq_true (by first | (with_reducible assumption) | assumption)
                                              obtain ⟨ad182, e182, hx182_0⟩ := Kd.at_string HR0.out x8_1 p182 q182
                                              obtain rfl : ad165 = ad182 := (by injection e182)
                                              replace hx182_0 := (HB.out.cell (World.block_lt_of_cell? w _ hx182_0)).trans hx182_0
                                              replace p182 := eq_true p182
                                              replace q182 := eq_true q182
                                              have p183 : 0 ≤ ((ji42) : Int) := of_decide_eq_true (by first | (with_reducible assumption) | assumption)
                                              have q183 : (ji42) < (l1.length : Int) := of_decide_eq_true (by first | (with_reducible assumption) | assumption)
                                              obtain ⟨ad183, e183, hx183_0⟩ := Kd.at_bool HR1.out (ji42) p183 q183
                                              (try rw [← Nbq45.out] at hx183_0)
                                              cases e183
                                              replace hx183_0 := (HB.out.cell (World.block_lt_of_cell? w _ hx183_0)).trans hx183_0
                                              replace p183 := eq_true p183
                                              replace q183 := eq_true q183
                                              have p184 : 0 ≤ (x8_1 : Int) := of_decide_eq_true (by first | (with_reducible assumption) | assumption)
                                              have q184 : x8_1 < (l0.length : Int) := of_decide_eq_true (by first | (with_reducible assumption) | assumption)
                                              obtain ⟨ad184, e184, hx184_0⟩ := Kd.at_string HR0.out x8_1 p184 q184
                                              obtain rfl : ad165 = ad184 := (by injection e184)
                                              replace hx184_0 := (HB.out.cell (World.block_lt_of_cell? w _ hx184_0)).trans hx184_0
                                              replace p184 := eq_true p184
                                              replace q184 := eq_true q184
                                              go_wp2_with (first | ((with_reducible refine gate_builtin (b := .append) (xs := #[.tmp 65, .tmp 70]) rfl ?_); at_builtin; refine Kd.R_append Kd.string (w0 := w) w.heap.size rfl (.tmp 65) (.tmp 70) 26 9 (.string ⟨#[]⟩) 16 rfl Tryd.underlying26 info9 rfl (by decide) (by omega) (.slice Ao14 x6_1.length co14) x6_1 (rdOf ByteArray.empty l0 x8_1) [.string (rdOf ByteArray.empty l0 x8_1)] (fun _ => True) (fun _ => False) rfl rfl ?aP (fun _ hk => hk.elim) ?aF ?aO ?aB ?aS ?aL ?_; (case aP => exact rfl); (case aB => exact (by repeat (first | (with_reducible first | exact HB.out | apply below_alloc | apply pw_below_drewN | apply below_drew1) | exact HB.out))); (case aF => exact (fun _ _ => trivial)); (case aO => exact (by (with_reducible repeat (first | apply Kd.R_alloc | apply Kd.R_drewN | apply Kd.R_drew)); exact HO_6.out)); (case aS => exact (below_size (by repeat (first | (with_reducible first | exact HB.out | apply below_alloc | apply pw_below_drewN | apply below_drew1) | exact HB.out)))); (case aL => have := LMc48.out; omega); intro v186 w49 ho hb hg hat; rw [← Ny185.out] at ho; have n0_ := Aside0.mk (hb); have n1_ := Aside0.mk (ho); clear HB; clear HO_6; have HB := n0_; have HO187 := n1_; clear n0_ n1_; clear ho hb hg hat))
                                              all_goals (try (exfalso; omega))
                                              go_roundg kj16
                                              case measure => have := HK1.out; have := HJ4.out; have := HJ11.out; have := HJ16.out; omega
                                              case rel => exact ⟨(y185), ((x7_11 ++ (rdOf ByteArray.empty l0 x8_1)) ++ (⟨#[32]⟩ : ByteArray)), (wrap64 (x8_1 + 1)), (by first | rfl | (simp; done) | (simp [*]; done)), (by first | rfl | (simp; done) | (simp [*]; done)), H', ⟨by have := HK1.out; have := HJ4.out; have := HJ11.out; have := HJ16.out; omega⟩, ⟨by (with_reducible repeat (first | apply Kd.R_alloc | apply Kd.R_drewN | apply Kd.R_drew)); exact HO187.out⟩, ⟨by repeat (first | (with_reducible first | exact HB.out | apply below_alloc | apply pw_below_drewN | apply below_drew1) | exact HB.out)⟩⟩
                                            · rw [if_neg c48] at H
                                              exact absurd H (by simp)
                                          · rw [if_neg c47] at H
                                            (try (have c47x := c47; simp only [ByteArray.size_append] at c47x))
                                            exact absurd H (by simp)
                                        · replace c46 := Bool.eq_false_iff.mpr c46
                                          subst c46
                                          have H1 : (if x6_1.length < 8796093022208 then (transeptlaw09_TokenJoins.l0 kj16 l0 l1 t164 (x6_1 ++ [rdOf ByteArray.empty l0 x8_1]) (x7_11 ++ (rdOf ByteArray.empty l0 x8_1)) (wrap64 (x8_1 + 1))) else (none)) = some r := by rw [if_neg (show ¬ (false = true) by decide)] at H; exact H
                                          clear H
                                          have H := H1
                                          clear H1
                                          by_cases c50 : x6_1.length < 8796093022208
                                          · rw [if_pos c50] at H
                                            have LMc50 := Aside0.mk c50
                                            obtain ⟨y189, hy189⟩ : ∃ y_ : List ByteArray, y_ = (x6_1 ++ [rdOf ByteArray.empty l0 x8_1]) := ⟨_, rfl⟩
                                            replace H : (transeptlaw09_TokenJoins.l0 kj16 l0 l1 t164 y189 (x7_11 ++ (rdOf ByteArray.empty l0 x8_1)) (wrap64 (x8_1 + 1))) = some r := by first | (rw [hy189]; with_reducible exact H) | (have H2_ := (Option.bind_some _ _).symm.trans H; rw [hy189]; with_reducible exact H2_) | (have H2_ := (Option.bind_some _ _).symm.trans H; with_reducible exact H2_) | with_reducible exact H | (rw [hy189]; exact H) | exact H
                                            have Ny189 := Aside0.mk hy189
                                            clear hy189
                                            have H' := Aside0.mk H
                                            clear H
                                            have p182 : 0 ≤ (x8_1 : Int) := of_decide_eq_true (by first | (with_reducible assumption) | assumption)
                                            have q182 : x8_1 < (l0.length : Int) := of_decide_eq_true (by first | (with_reducible assumption) | assumption)
                                            obtain ⟨ad182, e182, hx182_0⟩ := Kd.at_string HR0.out x8_1 p182 q182
                                            obtain rfl : ad165 = ad182 := (by injection e182)
                                            replace hx182_0 := (HB.out.cell (World.block_lt_of_cell? w _ hx182_0)).trans hx182_0
                                            replace p182 := eq_true p182
                                            replace q182 := eq_true q182
                                            have p183 : 0 ≤ ((ji42) : Int) := of_decide_eq_true (by first | (with_reducible assumption) | assumption)
                                            have q183 : (ji42) < (l1.length : Int) := of_decide_eq_true (by first | (with_reducible assumption) | assumption)
                                            obtain ⟨ad183, e183, hx183_0⟩ := Kd.at_bool HR1.out (ji42) p183 q183
                                            (try rw [← Nbq45.out] at hx183_0)
                                            cases e183
                                            replace hx183_0 := (HB.out.cell (World.block_lt_of_cell? w _ hx183_0)).trans hx183_0
                                            replace p183 := eq_true p183
                                            replace q183 := eq_true q183
                                            have p188 : 0 ≤ (x8_1 : Int) := of_decide_eq_true (by first | (with_reducible assumption) | assumption)
                                            have q188 : x8_1 < (l0.length : Int) := of_decide_eq_true (by first | (with_reducible assumption) | assumption)
                                            obtain ⟨ad188, e188, hx188_0⟩ := Kd.at_string HR0.out x8_1 p188 q188
                                            obtain rfl : ad165 = ad188 := (by injection e188)
                                            replace hx188_0 := (HB.out.cell (World.block_lt_of_cell? w _ hx188_0)).trans hx188_0
                                            replace p188 := eq_true p188
                                            replace q188 := eq_true q188
                                            go_wp2_with (first | ((with_reducible refine gate_builtin (b := .append) (xs := #[.tmp 65, .tmp 70]) rfl ?_); at_builtin; refine Kd.R_append Kd.string (w0 := w) w.heap.size rfl (.tmp 65) (.tmp 70) 26 9 (.string ⟨#[]⟩) 16 rfl Tryd.underlying26 info9 rfl (by decide) (by omega) (.slice Ao14 x6_1.length co14) x6_1 (rdOf ByteArray.empty l0 x8_1) [.string (rdOf ByteArray.empty l0 x8_1)] (fun _ => True) (fun _ => False) rfl rfl ?aP (fun _ hk => hk.elim) ?aF ?aO ?aB ?aS ?aL ?_; (case aP => exact rfl); (case aB => exact (by repeat (first | (with_reducible first | exact HB.out | apply below_alloc | apply pw_below_drewN | apply below_drew1) | exact HB.out))); (case aF => exact (fun _ _ => trivial)); (case aO => exact (by (with_reducible repeat (first | apply Kd.R_alloc | apply Kd.R_drewN | apply Kd.R_drew)); exact HO_6.out)); (case aS => exact (below_size (by repeat (first | (with_reducible first | exact HB.out | apply below_alloc | apply pw_below_drewN | apply below_drew1) | exact HB.out)))); (case aL => have := LMc50.out; omega); intro v190 w51 ho hb hg hat; rw [← Ny189.out] at ho; have n0_ := Aside0.mk (hb); have n1_ := Aside0.mk (ho); clear HB; clear HO_6; have HB := n0_; have HO191 := n1_; clear n0_ n1_; clear ho hb hg hat))
                                            all_goals (try (exfalso; omega))
                                            go_roundg kj16
                                            case measure => have := HK1.out; have := HJ4.out; have := HJ11.out; have := HJ16.out; omega
                                            case rel => exact ⟨(y189), (x7_11 ++ (rdOf ByteArray.empty l0 x8_1)), (wrap64 (x8_1 + 1)), (by first | rfl | (simp; done) | (simp [*]; done)), (by first | rfl | (simp; done) | (simp [*]; done)), H', ⟨by have := HK1.out; have := HJ4.out; have := HJ11.out; have := HJ16.out; omega⟩, ⟨by (with_reducible repeat (first | apply Kd.R_alloc | apply Kd.R_drewN | apply Kd.R_drew)); exact HO191.out⟩, ⟨by repeat (first | (with_reducible first | exact HB.out | apply below_alloc | apply pw_below_drewN | apply below_drew1) | exact HB.out)⟩⟩
                                          · rw [if_neg c50] at H
                                            exact absurd H (by simp)
                                      · rw [if_neg c44] at H
                                        exact absurd H (by simp)
                                    · rw [if_neg c43] at H
                                      exact absurd H (by simp)
                                  · rw [if_neg c41] at H
                                    have c41b0 : decide ((wrap64 (2 * x8_1)) < (l1.length : Int)) = false := decide_eq_false c41
                                    by_cases c52 : x6_1.length < 8796093022208
                                    · rw [if_pos c52] at H
                                      have LMc52 := Aside0.mk c52
                                      obtain ⟨y193, hy193⟩ : ∃ y_ : List ByteArray, y_ = (x6_1 ++ [rdOf ByteArray.empty l0 x8_1]) := ⟨_, rfl⟩
                                      replace H : (transeptlaw09_TokenJoins.l0 kj16 l0 l1 t164 y193 (x7_11 ++ (rdOf ByteArray.empty l0 x8_1)) (wrap64 (x8_1 + 1))) = some r := by first | (rw [hy193]; with_reducible exact H) | (have H2_ := (Option.bind_some _ _).symm.trans H; rw [hy193]; with_reducible exact H2_) | (have H2_ := (Option.bind_some _ _).symm.trans H; with_reducible exact H2_) | with_reducible exact H | (rw [hy193]; exact H) | exact H
                                      have Ny193 := Aside0.mk hy193
                                      clear hy193
                                      have H' := Aside0.mk H
                                      clear H
                                      have p182 : 0 ≤ (x8_1 : Int) := of_decide_eq_true (by first | (with_reducible assumption) | assumption)
                                      have q182 : x8_1 < (l0.length : Int) := of_decide_eq_true (by first | (with_reducible assumption) | assumption)
                                      obtain ⟨ad182, e182, hx182_0⟩ := Kd.at_string HR0.out x8_1 p182 q182
                                      obtain rfl : ad165 = ad182 := (by injection e182)
                                      replace hx182_0 := (HB.out.cell (World.block_lt_of_cell? w _ hx182_0)).trans hx182_0
                                      replace p182 := eq_true p182
                                      replace q182 := eq_true q182
                                      have p192 : 0 ≤ (x8_1 : Int) := of_decide_eq_true (by first | (with_reducible assumption) | assumption)
                                      have q192 : x8_1 < (l0.length : Int) := of_decide_eq_true (by first | (with_reducible assumption) | assumption)
                                      obtain ⟨ad192, e192, hx192_0⟩ := Kd.at_string HR0.out x8_1 p192 q192
                                      obtain rfl : ad165 = ad192 := (by injection e192)
                                      replace hx192_0 := (HB.out.cell (World.block_lt_of_cell? w _ hx192_0)).trans hx192_0
                                      replace p192 := eq_true p192
                                      replace q192 := eq_true q192
                                      go_wp2_with (first | ((with_reducible refine gate_builtin (b := .append) (xs := #[.tmp 65, .tmp 70]) rfl ?_); at_builtin; refine Kd.R_append Kd.string (w0 := w) w.heap.size rfl (.tmp 65) (.tmp 70) 26 9 (.string ⟨#[]⟩) 16 rfl Tryd.underlying26 info9 rfl (by decide) (by omega) (.slice Ao14 x6_1.length co14) x6_1 (rdOf ByteArray.empty l0 x8_1) [.string (rdOf ByteArray.empty l0 x8_1)] (fun _ => True) (fun _ => False) rfl rfl ?aP (fun _ hk => hk.elim) ?aF ?aO ?aB ?aS ?aL ?_; (case aP => exact rfl); (case aB => exact (by repeat (first | (with_reducible first | exact HB.out | apply below_alloc | apply pw_below_drewN | apply below_drew1) | exact HB.out))); (case aF => exact (fun _ _ => trivial)); (case aO => exact (by (with_reducible repeat (first | apply Kd.R_alloc | apply Kd.R_drewN | apply Kd.R_drew)); exact HO_6.out)); (case aS => exact (below_size (by repeat (first | (with_reducible first | exact HB.out | apply below_alloc | apply pw_below_drewN | apply below_drew1) | exact HB.out)))); (case aL => have := LMc52.out; omega); intro v194 w53 ho hb hg hat; rw [← Ny193.out] at ho; have n0_ := Aside0.mk (hb); have n1_ := Aside0.mk (ho); clear HB; clear HO_6; have HB := n0_; have HO195 := n1_; clear n0_ n1_; clear ho hb hg hat))
                                      all_goals (try (exfalso; omega))
                                      go_roundg kj16
                                      case measure => have := HK1.out; have := HJ4.out; have := HJ11.out; have := HJ16.out; omega
                                      case rel => exact ⟨(y193), (x7_11 ++ (rdOf ByteArray.empty l0 x8_1)), (wrap64 (x8_1 + 1)), (by first | rfl | (simp; done) | (simp [*]; done)), (by first | rfl | (simp; done) | (simp [*]; done)), H', ⟨by have := HK1.out; have := HJ4.out; have := HJ11.out; have := HJ16.out; omega⟩, ⟨by (with_reducible repeat (first | apply Kd.R_alloc | apply Kd.R_drewN | apply Kd.R_drew)); exact HO195.out⟩, ⟨by repeat (first | (with_reducible first | exact HB.out | apply below_alloc | apply pw_below_drewN | apply below_drew1) | exact HB.out)⟩⟩
                                    · rw [if_neg c52] at H
                                      exact absurd H (by simp)
                                · rw [if_neg c40] at H
                                  exact absurd H (by simp)
                              · rw [if_neg c39] at H
                                exact absurd H (by simp)
                            · rw [if_neg c38] at H
                              exact absurd H (by simp)
                · replace c11 := Bool.eq_false_iff.mpr c11
                  subst c11
                  have H1 : (transeptlaw09_TokenJoins.l0 kj4 l0 l1 t164 x6_1 x7_1 (wrap64 (x8_1 + 1))) = some r := by rw [if_neg (show ¬ (false = true) by decide)] at H; exact H
                  clear H
                  have H := H1
                  clear H1
                  have H' := Aside0.mk H
                  clear H
                  have p165 : 0 ≤ (x8_1 : Int) := of_decide_eq_true (by first | (with_reducible assumption) | assumption)
                  have q165 : x8_1 < (l0.length : Int) := of_decide_eq_true (by first | (with_reducible assumption) | assumption)
                  obtain ⟨ad165, e165, hx165_0⟩ := Kd.at_string HR0.out x8_1 p165 q165
                  cases e165
                  replace hx165_0 := (HB.out.cell (World.block_lt_of_cell? w _ hx165_0)).trans hx165_0
                  replace p165 := eq_true p165
                  replace q165 := eq_true q165
                  go_wp2_with (first | ((with_reducible refine gate_callee (f := 10) rfl ?_); refine goesL_ (some 25) rfl rfl Tryd.func10 (by kernel_rfl) rfl #[.string (rdOf ByteArray.empty l0 x8_1)] rfl (by (try simp only [List.map_toArray, List.map_cons, List.map_nil]); first | done | rfl | (simp only [List.length_drop, List.length_take]; rfl)) ?_; (with_reducible refine (Ext.token_Name.calls (rdOf ByteArray.empty l0 x8_1) false _ ?side1 A10.out).mono ?_); (case side1 => exact Ext.tabs_at HT.out (by repeat (first | (with_reducible first | exact HB.out | apply below_alloc | apply pw_below_drewN | apply below_drew1) | exact HB.out))); rintro e w54 ⟨rfl, hb⟩; refine ⟨_, rfl, ?_⟩; have n0_ := Aside0.mk (Kd.R_below (by (with_reducible repeat (first | apply Kd.R_alloc | apply Kd.R_drewN | apply Kd.R_drew)); exact HO_6.out) hb); have n1_ := Aside0.mk (below_step (by repeat (first | (with_reducible first | exact HB.out | apply below_alloc | apply pw_below_drewN | apply below_drew1) | exact HB.out)) hb); clear HO_6; clear HB; have HO_6 := n0_; have HB := n1_; clear n0_ n1_; (try clear hb); (try clear hb2); (try clear hk); (try clear hi)))
                  all_goals (try (exfalso; omega))
                  go_roundg kj4
                  case measure => have := HK1.out; have := HJ4.out; omega
                  case rel => exact ⟨(x6_1), (x7_1), (wrap64 (x8_1 + 1)), (by first | rfl | (simp; done) | (simp [*]; done)), (by first | rfl | (simp; done) | (simp [*]; done)), H', ⟨by have := HK1.out; have := HJ4.out; omega⟩, ⟨by (with_reducible repeat (first | apply Kd.R_alloc | apply Kd.R_drewN | apply Kd.R_drew)); exact HO_6.out⟩, ⟨by repeat (first | (with_reducible first | exact HB.out | apply below_alloc | apply pw_below_drewN | apply below_drew1) | exact HB.out)⟩⟩
              · rw [if_neg c9] at H
                exact absurd H (by simp)
            · rw [if_neg c8] at H
              exact absurd H (by simp)
          · replace c7 := Bool.eq_false_iff.mpr c7
            subst c7
            have H1 : (if (x6_1.length : Int) = 0 then (if t164 = true then ((token_Parts.f kj4 x7_1).bind fun t199 => ((transeptref09_Same.f kj4 t199 (([(⟨#[]⟩ : ByteArray)] : List ByteArray))).bind fun t202 => (some t202))) else (some false)) else (if t164 = true then ((token_Parts.f kj4 x7_1).bind fun t203 => ((transeptref09_Same.f kj4 t203 x6_1).bind fun t206 => (some t206))) else (some false))) = some r := by rw [if_neg (show ¬ (false = true) by decide)] at H; exact H
            clear H
            have H := H1
            clear H1
            by_cases c55 : (x6_1.length : Int) = 0
            · rw [if_pos c55] at H
              have c55b0 : ((x6_1.length : Int) == 0) = true := beq_iff_eq.mpr c55
              have c55b1 : ((x6_1.length : Int) != 0) = false := bne_eq_false_iff_eq.mpr c55
              clear c55
              obtain ⟨y196, hy196⟩ : ∃ y_ : List ByteArray, y_ = (([(⟨#[]⟩ : ByteArray)] : List ByteArray)) := ⟨_, rfl⟩
              replace H : (if t164 = true then ((token_Parts.f kj4 x7_1).bind fun t199 => ((transeptref09_Same.f kj4 t199 y196).bind fun t202 => (some t202))) else (some false)) = some r := by first | (rw [hy196]; with_reducible exact H) | (have H2_ := (Option.bind_some _ _).symm.trans H; rw [hy196]; with_reducible exact H2_) | (have H2_ := (Option.bind_some _ _).symm.trans H; with_reducible exact H2_) | with_reducible exact H | (rw [hy196]; exact H) | exact H
              have Ny196 := Aside0.mk hy196
              clear hy196
              by_cases c56 : t164 = true
              · subst c56
                have H1 : ((token_Parts.f kj4 x7_1).bind fun t199 => ((transeptref09_Same.f kj4 t199 y196).bind fun t202 => (some t202))) = some r := by rw [if_pos rfl] at H; exact H
                clear H
                have H := H1
                clear H1
                replace H := Option.bind_eq_some_iff.mp H
                obtain ⟨t199, A570, H⟩ := H
                replace H : ((transeptref09_Same.f kj4 t199 y196).bind fun t202 => (some t202)) = some r := H
                have A57 := Aside0.mk A570
                clear A570
                replace H := Option.bind_eq_some_iff.mp H
                obtain ⟨t202, A580, H⟩ := H
                replace H : (some t202) = some r := H
                have A58 := Aside0.mk A580
                clear A580
                obtain rfl := Option.some.inj H
                obtain ⟨Ao59, co59, eo59⟩ := Kd.R_slice HO_6.out
                subst eo59
                go_wp2_with (first | ((with_reducible refine gate_dst (N := 75) rfl ?_); refine Kd.R_lit Kd.string _ 9 ?hg (N := 75) ?hd (xs := ([(⟨#[]⟩ : ByteArray)] : List ByteArray)) (inner := [.string (⟨#[]⟩ : ByteArray)]) (ok := fun _ => True) (okp := fun _ => True) ?hr ?hp (fun _ hk => hk) trivial (Below.refl _ _) (Nat.le_refl _) (by simp) ?_; (case hd => rfl); (case hg => rfl); (case hr => first | (go_simp; done) | (go_simp; rfl)); (case hp => exact (Reps.one (show Kd.M Kd.string _ _ _ (⟨#[]⟩ : ByteArray) [.string (⟨#[]⟩ : ByteArray)] from rfl) (Reps.none _ _))); intro v197 w60 ho61 hb hg_ hnew_; clear hg_ hnew_; (first | rw [← Ny196.out] at ho61 | (simp only [Int.reduceToNat] at ho61; rw [← Ny196.out] at ho61)); have n0_ := Aside0.mk (Kd.R_elder' (by (with_reducible repeat (first | apply Kd.R_alloc | apply Kd.R_drewN | apply Kd.R_drew)); exact HO_6.out) (Kd.R_base ho61) hb); have n1_ := Aside0.mk (Kd.R_lower (Kd.R_new' ho61 (Kd.R_lt (by (with_reducible repeat (first | apply Kd.R_alloc | apply Kd.R_drewN | apply Kd.R_drew)); exact HO_6.out))) (below_size (by repeat (first | (with_reducible first | exact HB.out | apply below_alloc | apply pw_below_drewN | apply below_drew1) | exact HB.out)))); have n2_ := Aside0.mk (below_step (by repeat (first | (with_reducible first | exact HB.out | apply below_alloc | apply pw_below_drewN | apply below_drew1) | exact HB.out)) hb); clear HO_6; clear HB; have HO_6 := n0_; have HO198 := n1_; have HB := n2_; clear n0_ n1_ n2_; clear hb ho61) | (go_at_call 24; (with_reducible refine (token_Parts.calls kj4 x7_1 t199 _ A57.out).mono ?_); rintro e w62 ⟨v200, rfl, ho0, hb⟩; have n0_ := Aside0.mk (Kd.R_elder' (by (with_reducible repeat (first | apply Kd.R_alloc | apply Kd.R_drewN | apply Kd.R_drew)); exact HO_6.out) (Kd.R_base ho0) hb); have n1_ := Aside0.mk (Kd.R_elder' (by (with_reducible repeat (first | apply Kd.R_alloc | apply Kd.R_drewN | apply Kd.R_drew)); exact HO198.out) (Kd.R_base ho0) hb); have n2_ := Aside0.mk (Kd.R_lower (Kd.R_new' (Kd.R_new' ho0 (Kd.R_lt (by (with_reducible repeat (first | apply Kd.R_alloc | apply Kd.R_drewN | apply Kd.R_drew)); exact HO_6.out))) (Kd.R_lt (by (with_reducible repeat (first | apply Kd.R_alloc | apply Kd.R_drewN | apply Kd.R_drew)); exact HO198.out))) (below_size (by repeat (first | (with_reducible first | exact HB.out | apply below_alloc | apply pw_below_drewN | apply below_drew1) | exact HB.out)))); have n3_ := Aside0.mk (below_step (by repeat (first | (with_reducible first | exact HB.out | apply below_alloc | apply pw_below_drewN | apply below_drew1) | exact HB.out)) hb); clear HO_6; clear HO198; clear HB; have HO_6 := n0_; have HO198 := n1_; have HO201 := n2_; have HB := n3_; clear n0_ n1_ n2_ n3_; (try clear hb); (try clear hb2); (try clear hk); (try clear hi); (try clear ho0); obtain ⟨Ao63, co63, eo63⟩ := Kd.R_slice HO201.out; subst eo63; obtain ⟨Ao64, co64, eo64⟩ := Kd.R_slice HO198.out; subst eo64) | (go_at_call 23; (with_reducible refine (transeptref09_Same.calls kj4 _ _ t199 _ _ y196 t202 _ ?side1 ?side2 ?side3 ?side4 A58.out).mono ?_); (case side1 => repeat (first | exact (Kd.R_reads' HO201.out).2.2 | (with_reducible refine Kd.C_alloc ?_ _) | (with_reducible refine Kd.C_drewN ?_ _) | (with_reducible refine Kd.C_drew ?_))); (case side2 => exact (Kd.R_reads' HO201.out).2.1); (case side3 => repeat (first | exact (Kd.R_reads' HO198.out).2.2 | (with_reducible refine Kd.C_alloc ?_ _) | (with_reducible refine Kd.C_drewN ?_ _) | (with_reducible refine Kd.C_drew ?_))); (case side4 => exact (Kd.R_reads' HO198.out).2.1); rintro e w' ⟨rfl, ⟨nd, rfl⟩⟩))
                all_goals (try (exfalso; omega))
                all_goals go_ret
                all_goals exact ⟨by first | rfl | (simp [errW_none, errW_some] <;> rfl) | (simp [*, errW_none, errW_some] <;> rfl), by repeat (first | (with_reducible first | exact HB.out | apply below_alloc | apply pw_below_drewN | apply below_drew1) | exact HB.out)⟩
              · replace c56 := Bool.eq_false_iff.mpr c56
                subst c56
                have H1 : (some false) = some r := by rw [if_neg (show ¬ (false = true) by decide)] at H; exact H
                clear H
                have H := H1
                clear H1
                obtain rfl := Option.some.inj H
                obtain ⟨Ao65, co65, eo65⟩ := Kd.R_slice HO_6.out
                subst eo65
                go_wp2_with (first | ((with_reducible refine gate_dst (N := 75) rfl ?_); refine Kd.R_lit Kd.string _ 9 ?hg (N := 75) ?hd (xs := ([(⟨#[]⟩ : ByteArray)] : List ByteArray)) (inner := [.string (⟨#[]⟩ : ByteArray)]) (ok := fun _ => True) (okp := fun _ => True) ?hr ?hp (fun _ hk => hk) trivial (Below.refl _ _) (Nat.le_refl _) (by simp) ?_; (case hd => rfl); (case hg => rfl); (case hr => first | (go_simp; done) | (go_simp; rfl)); (case hp => exact (Reps.one (show Kd.M Kd.string _ _ _ (⟨#[]⟩ : ByteArray) [.string (⟨#[]⟩ : ByteArray)] from rfl) (Reps.none _ _))); intro v197 w66 ho67 hb hg_ hnew_; clear hg_ hnew_; (first | rw [← Ny196.out] at ho67 | (simp only [Int.reduceToNat] at ho67; rw [← Ny196.out] at ho67)); have n0_ := Aside0.mk (Kd.R_elder' (by (with_reducible repeat (first | apply Kd.R_alloc | apply Kd.R_drewN | apply Kd.R_drew)); exact HO_6.out) (Kd.R_base ho67) hb); have n1_ := Aside0.mk (Kd.R_lower (Kd.R_new' ho67 (Kd.R_lt (by (with_reducible repeat (first | apply Kd.R_alloc | apply Kd.R_drewN | apply Kd.R_drew)); exact HO_6.out))) (below_size (by repeat (first | (with_reducible first | exact HB.out | apply below_alloc | apply pw_below_drewN | apply below_drew1) | exact HB.out)))); have n2_ := Aside0.mk (below_step (by repeat (first | (with_reducible first | exact HB.out | apply below_alloc | apply pw_below_drewN | apply below_drew1) | exact HB.out)) hb); clear HO_6; clear HB; have HO_6 := n0_; have HO198 := n1_; have HB := n2_; clear n0_ n1_ n2_; clear hb ho67))
                all_goals (try (exfalso; omega))
                all_goals go_ret
                all_goals exact ⟨by first | rfl | (simp [errW_none, errW_some] <;> rfl) | (simp [*, errW_none, errW_some] <;> rfl), by repeat (first | (with_reducible first | exact HB.out | apply below_alloc | apply pw_below_drewN | apply below_drew1) | exact HB.out)⟩
            · rw [if_neg c55] at H
              have c55b0 : ((x6_1.length : Int) == 0) = false := beq_eq_false_iff_ne.mpr c55
              have c55b1 : ((x6_1.length : Int) != 0) = true := bne_iff_ne.mpr c55
              have c55b2 : ¬ (x6_1 = []) := fun h_ => c55 (by rw [h_]; rfl)
              by_cases c68 : t164 = true
              · subst c68
                have H1 : ((token_Parts.f kj4 x7_1).bind fun t203 => ((transeptref09_Same.f kj4 t203 x6_1).bind fun t206 => (some t206))) = some r := by rw [if_pos rfl] at H; exact H
                clear H
                have H := H1
                clear H1
                replace H := Option.bind_eq_some_iff.mp H
                obtain ⟨t203, A690, H⟩ := H
                replace H : ((transeptref09_Same.f kj4 t203 x6_1).bind fun t206 => (some t206)) = some r := H
                have A69 := Aside0.mk A690
                clear A690
                replace H := Option.bind_eq_some_iff.mp H
                obtain ⟨t206, A700, H⟩ := H
                replace H : (some t206) = some r := H
                have A70 := Aside0.mk A700
                clear A700
                obtain rfl := Option.some.inj H
                obtain ⟨Ao71, co71, eo71⟩ := Kd.R_slice HO_6.out
                subst eo71
                go_wp2_with (first | (go_at_call 24; (with_reducible refine (token_Parts.calls kj4 x7_1 t203 _ A69.out).mono ?_); rintro e w72 ⟨v204, rfl, ho0, hb⟩; have n0_ := Aside0.mk (Kd.R_elder' (by (with_reducible repeat (first | apply Kd.R_alloc | apply Kd.R_drewN | apply Kd.R_drew)); exact HO_6.out) (Kd.R_base ho0) hb); have n1_ := Aside0.mk (Kd.R_lower (Kd.R_new' ho0 (Kd.R_lt (by (with_reducible repeat (first | apply Kd.R_alloc | apply Kd.R_drewN | apply Kd.R_drew)); exact HO_6.out))) (below_size (by repeat (first | (with_reducible first | exact HB.out | apply below_alloc | apply pw_below_drewN | apply below_drew1) | exact HB.out)))); have n2_ := Aside0.mk (below_step (by repeat (first | (with_reducible first | exact HB.out | apply below_alloc | apply pw_below_drewN | apply below_drew1) | exact HB.out)) hb); clear HO_6; clear HB; have HO_6 := n0_; have HO205 := n1_; have HB := n2_; clear n0_ n1_ n2_; (try clear hb); (try clear hb2); (try clear hk); (try clear hi); (try clear ho0); obtain ⟨Ao73, co73, eo73⟩ := Kd.R_slice HO205.out; subst eo73) | (go_at_call 23; (with_reducible refine (transeptref09_Same.calls kj4 _ _ t203 _ _ x6_1 t206 _ ?side1 ?side2 ?side3 ?side4 A70.out).mono ?_); (case side1 => repeat (first | exact (Kd.R_reads' HO205.out).2.2 | (with_reducible refine Kd.C_alloc ?_ _) | (with_reducible refine Kd.C_drewN ?_ _) | (with_reducible refine Kd.C_drew ?_))); (case side2 => exact (Kd.R_reads' HO205.out).2.1); (case side3 => repeat (first | exact (Kd.R_reads' HO_6.out).2.2 | (with_reducible refine Kd.C_alloc ?_ _) | (with_reducible refine Kd.C_drewN ?_ _) | (with_reducible refine Kd.C_drew ?_))); (case side4 => exact (Kd.R_reads' HO_6.out).2.1); rintro e w' ⟨rfl, ⟨nd, rfl⟩⟩))
                all_goals (try (exfalso; omega))
                all_goals go_ret
                all_goals exact ⟨by first | rfl | (simp [errW_none, errW_some] <;> rfl) | (simp [*, errW_none, errW_some] <;> rfl), by repeat (first | (with_reducible first | exact HB.out | apply below_alloc | apply pw_below_drewN | apply below_drew1) | exact HB.out)⟩
              · replace c68 := Bool.eq_false_iff.mpr c68
                subst c68
                have H1 : (some false) = some r := by rw [if_neg (show ¬ (false = true) by decide)] at H; exact H
                clear H
                have H := H1
                clear H1
                obtain rfl := Option.some.inj H
                obtain ⟨Ao74, co74, eo74⟩ := Kd.R_slice HO_6.out
                subst eo74
                go_wp2
                all_goals (try (exfalso; omega))
                all_goals go_ret
                all_goals exact ⟨by first | rfl | (simp [errW_none, errW_some] <;> rfl) | (simp [*, errW_none, errW_some] <;> rfl), by repeat (first | (with_reducible first | exact HB.out | apply below_alloc | apply pw_below_drewN | apply below_drew1) | exact HB.out)⟩

end Go.Proofs.YtkdcgodpobhfhaaDoor.Fun
