-- Written by xprint.py, a program of this session's, by means of the kit's print. Not trusted: Lean checks it.
import Derived.Test.YtikhboebmmmopaaDoorFun0
import Derived.Test.YtikhboebmmmopaaDoorFun1
namespace Go.Proofs.YtikhboebmmmopaaDoor.Fun
open Go.RowKit Go.Proofs.YtikhboebmmmopaaDoorW.PrintWords Go.Proofs.YtikhboebmmmopaaDoorW.PrintLast Go.Proofs.YtikhboebmmmopaaDoorW.PrintMore
attribute [local go_sem] max2_int min2_int max_two min_two max_three min_three max_four min_four   -- for this text's walks alone
set_option linter.unusedVariables false
set_option linter.unusedSimpArgs false

/-! ### transeptlaw12.shown, by hand: it always answers true -/
def transeptlaw12_shown.f (_k : Nat) : Option Bool := some true
theorem transeptlaw12_shown.mono : ∀ k, LeO (transeptlaw12_shown.f k) (transeptlaw12_shown.f (k + 1)) := fun _ => LeO.refl _
theorem transeptlaw12_shown.uns : safe_Unsafe.f 60 [(⟨(⟨#[88, 45, 97]⟩ : ByteArray), (⟨#[49]⟩ : ByteArray)⟩ : S30), (⟨(⟨#[97, 99, 99, 101, 112, 116]⟩ : ByteArray), (⟨#[50]⟩ : ByteArray)⟩ : S30)] = some [(⟨#[120, 45, 97]⟩ : ByteArray)] := by
  have h1 : safe_Unsafe.f 60 [(⟨(⟨#[88, 45, 97]⟩ : ByteArray), (⟨#[49]⟩ : ByteArray)⟩ : S30), (⟨(⟨#[97, 99, 99, 101, 112, 116]⟩ : ByteArray), (⟨#[50]⟩ : ByteArray)⟩ : S30)] = (field_Names.f [(⟨(⟨#[88, 45, 97]⟩ : ByteArray), (⟨#[49]⟩ : ByteArray)⟩ : S30)]).bind fun t => some t := by kernel_rfl
  have h2 : field_Names.f [(⟨(⟨#[88, 45, 97]⟩ : ByteArray), (⟨#[49]⟩ : ByteArray)⟩ : S30)] = some [(⟨#[120, 45, 97]⟩ : ByteArray)] := by
    unfold field_Names.f
    rw [if_pos (by decide +kernel)]
    have h3 : [(⟨(⟨#[88, 45, 97]⟩ : ByteArray), (⟨#[49]⟩ : ByteArray)⟩ : S30)].map field_Names.key = [[120, 45, 97]] := by decide +kernel
    rw [h3, Plain.nm_one]
    rfl
  rw [h1, h2]
  rfl
theorem transeptlaw12_shown.facts : safe_Method.f 60 (⟨#[103, 101, 116]⟩ : ByteArray) = some true ∧ safe_Method.f 60 (⟨#[80, 85, 84]⟩ : ByteArray) = some false ∧ Ext.safe_Header.f (⟨#[67, 111, 110, 116, 101, 110, 116, 45, 84, 121, 112, 101]⟩ : ByteArray) (⟨#[116, 101, 120, 116, 47, 112, 108, 97, 105, 110]⟩ : ByteArray) = some true ∧ Ext.safe_Header.f (⟨#[99, 111, 110, 116, 101, 110, 116, 45, 116, 121, 112, 101]⟩ : ByteArray) (⟨#[97, 112, 112, 108, 105, 99, 97, 116, 105, 111, 110, 47, 106, 115, 111, 110]⟩ : ByteArray) = some false ∧ Ext.safe_Header.f (⟨#[114, 97, 110, 103, 101]⟩ : ByteArray) (⟨#[98, 121, 116, 101, 115, 61, 49, 45, 50]⟩ : ByteArray) = some true ∧ Ext.safe_Header.f (⟨#[114, 97, 110, 103, 101]⟩ : ByteArray) (⟨#[98, 121, 116, 101, 115, 61, 51, 45, 50]⟩ : ByteArray) = some false ∧ safe_Never.f 60 (⟨#[83, 101, 99, 45, 120]⟩ : ByteArray) = some true ∧ safe_Reads.f 60 (⟨#[101, 120, 112, 105, 114, 101, 115]⟩ : ByteArray) = some true ∧ safe_Hidden.f (⟨#[83, 101, 116, 45, 67, 111, 111, 107, 105, 101]⟩ : ByteArray) = some true := by
  refine ⟨?_, ?_, ?_, ?_, ?_, ?_, ?_, ?_, ?_⟩ <;> decide +kernel
set_option maxHeartbeats 4000000 in
set_option maxRecDepth 100000 in
theorem transeptlaw12_shown.calls (k : Nat) (r : Bool) (w : World) (hT : Ext.Tabs w) (h : transeptlaw12_shown.f k = some r) :
    Calls Tryd.prog 9 #[] w fun e w' => e = .returned (.bool r) ∧ Below w.heap.size w w' := by
  obtain rfl := Option.some.inj h
  obtain ⟨h1, h2, h3, h4, h5, h6, h7, h8, h9⟩ := transeptlaw12_shown.facts
  obtain ⟨any, hany⟩ : ∃ l : List S30, l = [(⟨(⟨#[88, 45, 97]⟩ : ByteArray), (⟨#[49]⟩ : ByteArray)⟩ : S30), (⟨(⟨#[97, 99, 99, 101, 112, 116]⟩ : ByteArray), (⟨#[50]⟩ : ByteArray)⟩ : S30)] := ⟨_, rfl⟩
  have HUNS := Aside0.mk (show safe_Unsafe.f 60 any = some [(⟨#[120, 45, 97]⟩ : ByteArray)] by rw [hany]; exact transeptlaw12_shown.uns)
  have HANY := Aside0.mk hany
  have HB := Aside0.mk (Below.refl w.heap.size w)
  have HT := Aside0.mk hT
  have A1 := Aside0.mk h1
  have A2 := Aside0.mk h2
  have A3 := Aside0.mk h3
  have A4 := Aside0.mk h4
  have A5 := Aside0.mk h5
  have A6 := Aside0.mk h6
  have A7 := Aside0.mk h7
  have A8 := Aside0.mk h8
  have A9 := Aside0.mk h9
  clear h hT hany h1 h2 h3 h4 h5 h6 h7 h8 h9
  go_enter Tryd.func9, Tryd.ntmps9
  go_wp2_with (first | ((with_reducible refine gate_dst (N := 4) rfl ?_); (try (refine gate_guard (by rfl) ?_; dsimp only)); refine Kd.R_lit k30 _ 30 ?hg (N := 4) ?hd (xs := ([(⟨(⟨#[88, 45, 97]⟩ : ByteArray), (⟨#[49]⟩ : ByteArray)⟩ : S30), (⟨(⟨#[97, 99, 99, 101, 112, 116]⟩ : ByteArray), (⟨#[50]⟩ : ByteArray)⟩ : S30)] : List S30)) (inner := [.string (⟨#[88, 45, 97]⟩ : ByteArray), .string (⟨#[49]⟩ : ByteArray), .string (⟨#[97, 99, 99, 101, 112, 116]⟩ : ByteArray), .string (⟨#[50]⟩ : ByteArray)]) (ok := fun _ => True) (okp := fun _ => True) ?hr ?hp (fun _ hk => hk) trivial (Below.refl _ _) (Nat.le_refl _) (by simp) ?_; (case hd => rfl); (case hg => rfl); (case hr => first | (go_simp; done) | (go_simp; rfl)); (case hp => exact (Reps.c2 (show Kd.M k30 _ _ _ (⟨(⟨#[88, 45, 97]⟩ : ByteArray), (⟨#[49]⟩ : ByteArray)⟩ : S30) [.string (⟨#[88, 45, 97]⟩ : ByteArray), .string (⟨#[49]⟩ : ByteArray)] from (k30_mkM _ _ _ (⟨(⟨#[88, 45, 97]⟩ : ByteArray), (⟨#[49]⟩ : ByteArray)⟩ : S30))) (Reps.c2 (show Kd.M k30 _ _ _ (⟨(⟨#[97, 99, 99, 101, 112, 116]⟩ : ByteArray), (⟨#[50]⟩ : ByteArray)⟩ : S30) [.string (⟨#[97, 99, 99, 101, 112, 116]⟩ : ByteArray), .string (⟨#[50]⟩ : ByteArray)] from (k30_mkM _ _ _ (⟨(⟨#[97, 99, 99, 101, 112, 116]⟩ : ByteArray), (⟨#[50]⟩ : ByteArray)⟩ : S30))) (Reps.none _ _)))); intro vA w' ho hb hg_ hnew_; clear hg_ hnew_; rw [← HANY.out] at ho; have n0_ := Aside0.mk (Kd.R_lower ho (below_size (by repeat (first | (with_reducible first | exact HB.out | apply below_alloc | apply pw_below_drewN | apply below_drew1) | exact HB.out)))); have n1_ := Aside0.mk (below_step (by repeat (first | (with_reducible first | exact HB.out | apply below_alloc | apply pw_below_drewN | apply below_drew1) | exact HB.out)) hb); clear HB; have HOA := n0_; have HB := n1_; clear n0_ n1_ hb ho))
  all_goals (try (exfalso; omega))
  obtain ⟨AA, cA, eA⟩ := Kd.R_slice HOA.out
  subst eA
  refine (safe_Unsafe.calls 60 _ _ any _ _ (Ext.tabs_at HT.out HB.out) (Kd.R_reads' HOA.out).2.2 (Kd.R_reads' HOA.out).2.1 HUNS.out).mono ?_
  rintro e_ W0 ⟨v0, rfl, hR0, hb⟩
  have HOR := Aside0.mk hR0
  have N2 := Aside0.mk (below_step HB.out hb)
  clear HOA HB hb hR0 HUNS HANY
  have HB := N2
  clear N2
  obtain ⟨AR, cR, eR⟩ := Kd.R_slice HOR.out
  subst eR
  go_wp2_with fail
  all_goals (try (exfalso; omega))
  refine (safe_Method.calls 60 (⟨#[103, 101, 116]⟩ : ByteArray) true _ A1.out).mono ?_
  rintro e_ W1 ⟨rfl, hb⟩
  have N1 := Aside0.mk (Kd.R_below HOR.out hb)
  have N2 := Aside0.mk (below_step HB.out hb)
  clear HOR HB hb
  have HOR := N1
  have HB := N2
  clear N1 N2
  go_wp2_with fail
  all_goals (try (exfalso; omega))
  refine (safe_Method.calls 60 (⟨#[80, 85, 84]⟩ : ByteArray) false _ A2.out).mono ?_
  rintro e_ W2 ⟨rfl, hb⟩
  have N1 := Aside0.mk (Kd.R_below HOR.out hb)
  have N2 := Aside0.mk (below_step HB.out hb)
  clear HOR HB hb
  have HOR := N1
  have HB := N2
  clear N1 N2
  go_wp2_with fail
  all_goals (try (exfalso; omega))
  refine (Ext.safe_Header.calls (⟨#[67, 111, 110, 116, 101, 110, 116, 45, 84, 121, 112, 101]⟩ : ByteArray) (⟨#[116, 101, 120, 116, 47, 112, 108, 97, 105, 110]⟩ : ByteArray) true _ (Ext.tabs_at HT.out HB.out) A3.out).mono ?_
  rintro e_ W3 ⟨rfl, hb⟩
  have N1 := Aside0.mk (Kd.R_below HOR.out hb)
  have N2 := Aside0.mk (below_step HB.out hb)
  clear HOR HB hb
  have HOR := N1
  have HB := N2
  clear N1 N2
  go_wp2_with fail
  all_goals (try (exfalso; omega))
  refine (Ext.safe_Header.calls (⟨#[99, 111, 110, 116, 101, 110, 116, 45, 116, 121, 112, 101]⟩ : ByteArray) (⟨#[97, 112, 112, 108, 105, 99, 97, 116, 105, 111, 110, 47, 106, 115, 111, 110]⟩ : ByteArray) false _ (Ext.tabs_at HT.out HB.out) A4.out).mono ?_
  rintro e_ W4 ⟨rfl, hb⟩
  have N1 := Aside0.mk (Kd.R_below HOR.out hb)
  have N2 := Aside0.mk (below_step HB.out hb)
  clear HOR HB hb
  have HOR := N1
  have HB := N2
  clear N1 N2
  go_wp2_with fail
  all_goals (try (exfalso; omega))
  refine (Ext.safe_Header.calls (⟨#[114, 97, 110, 103, 101]⟩ : ByteArray) (⟨#[98, 121, 116, 101, 115, 61, 49, 45, 50]⟩ : ByteArray) true _ (Ext.tabs_at HT.out HB.out) A5.out).mono ?_
  rintro e_ W5 ⟨rfl, hb⟩
  have N1 := Aside0.mk (Kd.R_below HOR.out hb)
  have N2 := Aside0.mk (below_step HB.out hb)
  clear HOR HB hb
  have HOR := N1
  have HB := N2
  clear N1 N2
  go_wp2_with fail
  all_goals (try (exfalso; omega))
  refine (Ext.safe_Header.calls (⟨#[114, 97, 110, 103, 101]⟩ : ByteArray) (⟨#[98, 121, 116, 101, 115, 61, 51, 45, 50]⟩ : ByteArray) false _ (Ext.tabs_at HT.out HB.out) A6.out).mono ?_
  rintro e_ W6 ⟨rfl, hb⟩
  have N1 := Aside0.mk (Kd.R_below HOR.out hb)
  have N2 := Aside0.mk (below_step HB.out hb)
  clear HOR HB hb
  have HOR := N1
  have HB := N2
  clear N1 N2
  have HCC := Aside0.mk (Kd.R_reads' HOR.out).2.2
  obtain ⟨ad0, e0, hx0⟩ := Kd.at_string HCC.out 0 (by decide) (by decide)
  cases e0
  rw [show rdOf ByteArray.empty [(⟨#[120, 45, 97]⟩ : ByteArray)] 0 = (⟨#[120, 45, 97]⟩ : ByteArray) from rfl] at hx0
  have hy0 : W6.cell? ad0 = some (.string (⟨#[120, 45, 97]⟩ : ByteArray)) := by rw [show ad0.add (0 : Int).toNat = ad0 from by simp [Addr.add]] at hx0; exact hx0
  clear HCC hx0
  go_wp2_with fail
  all_goals (try (exfalso; omega))
  refine (safe_Never.calls 60 (⟨#[83, 101, 99, 45, 120]⟩ : ByteArray) true _ A7.out).mono ?_
  rintro e_ W7 ⟨rfl, hb⟩
  have N1 := Aside0.mk (Kd.R_below HOR.out hb)
  have N2 := Aside0.mk (below_step HB.out hb)
  clear HOR HB hb
  clear hy0
  have HOR := N1
  have HB := N2
  clear N1 N2
  go_wp2_with fail
  all_goals (try (exfalso; omega))
  refine (safe_Reads.calls 60 (⟨#[101, 120, 112, 105, 114, 101, 115]⟩ : ByteArray) true _ A8.out).mono ?_
  rintro e_ W8 ⟨rfl, hb⟩
  have N1 := Aside0.mk (Kd.R_below HOR.out hb)
  have N2 := Aside0.mk (below_step HB.out hb)
  clear HOR HB hb
  have HOR := N1
  have HB := N2
  clear N1 N2
  go_wp2_with fail
  all_goals (try (exfalso; omega))
  refine (safe_Hidden.calls (⟨#[83, 101, 116, 45, 67, 111, 111, 107, 105, 101]⟩ : ByteArray) true _ A9.out).mono ?_
  rintro e_ W9 ⟨rfl, hb⟩
  have N1 := Aside0.mk (Kd.R_below HOR.out hb)
  have N2 := Aside0.mk (below_step HB.out hb)
  clear HOR HB hb
  have HOR := N1
  have HB := N2
  clear N1 N2
  go_wp2
  all_goals (try (exfalso; omega))
  go_ret
  exact ⟨rfl, HB.out⟩

/-! ### transeptlaw12_in: function 17 -/
def transeptlaw12_in.l0 : Nat → List ByteArray → ByteArray → Int → Option (Bool)
  | 0, _, _, _ => none
  | k + 1, x0, x1, x5 => if x5 < (x0.length : Int) then (if 0 ≤ x5 then (if (rdOf ByteArray.empty x0 x5).toList = x1.toList then (some true) else (transeptlaw12_in.l0 k x0 x1 (wrap64 (x5 + 1)))) else (none)) else (some false)
def transeptlaw12_in.f (k : Nat) (l0 : List ByteArray) (a1 : ByteArray) : Option (Bool) := transeptlaw12_in.l0 k l0 a1 0
theorem transeptlaw12_in.mono_l : ∀ k, (∀ y0 y1 y2, LeO (transeptlaw12_in.l0 k y0 y1 y2) (transeptlaw12_in.l0 (k + 1) y0 y1 y2))
  | 0 => fun _ _ _ r h => by simp [transeptlaw12_in.l0] at h
  | k + 1 => by
    have ih0 := transeptlaw12_in.mono_l k
    · intro y0 y1 y2
      unfold transeptlaw12_in.l0
      repeat' first
      | (with_reducible exact ih0 _ _ _)
      | (with_reducible exact LeO.refl _)
      | (with_reducible exact LeO.none _)
      | (with_reducible refine LeO.ite ?_ ?_)
      | (with_reducible refine LeO.bind ?_ (fun _ => ?_))
      | exact ih0 _ _ _
      | exact LeO.none _
      | refine LeO.ite ?_ ?_
      | refine LeO.bind ?_ (fun _ => ?_)
theorem transeptlaw12_in.mono : ∀ a0 a1 k, LeO (transeptlaw12_in.f k a0 a1) (transeptlaw12_in.f (k + 1) a0 a1) := by
  intro a0 a1 k
  have ih0 := transeptlaw12_in.mono_l k
  unfold transeptlaw12_in.f
  repeat' first
      | (with_reducible exact ih0 _ _ _)
      | (with_reducible exact LeO.refl _)
      | (with_reducible exact LeO.none _)
      | (with_reducible refine LeO.ite ?_ ?_)
      | (with_reducible refine LeO.bind ?_ (fun _ => ?_))
      | exact ih0 _ _ _
      | exact LeO.none _
      | refine LeO.ite ?_ ?_
      | refine LeO.bind ?_ (fun _ => ?_)
set_option maxHeartbeats 8000000 in
set_option maxRecDepth 100000 in
theorem transeptlaw12_in.calls (k : Nat) (A0 : Option Addr) (c0 : Nat) (l0 : List ByteArray) (a1 : ByteArray) (r : Bool) (w : World) (hr0 : Kd.C Kd.string w A0 l0.length l0) (hc0 : l0.length ≤ c0) (h : transeptlaw12_in.f k l0 a1 = some r) :
    Calls Tryd.prog 17 #[.slice A0 l0.length c0, .string a1] w fun e w' => e = .returned (.bool r) ∧ Drawn0 w w' := by
  have HR0 := Aside0.mk hr0
  have HC0 := Aside0.mk hc0
  clear hr0 hc0
  have H : (transeptlaw12_in.l0 k l0 a1 0) = some r := h
  clear h
  have H' := Aside0.mk H
  clear H
  go_enter Tryd.func17, Tryd.ntmps17
  go_wp2
  all_goals (try (exfalso; omega))
  go_loopg [5] k (fun kq v5 w' => ∃ (x5_1 : Int), v5 = .int .i64 x5_1 ∧ Aside0 (transeptlaw12_in.l0 kq l0 a1 x5_1 = some r) ∧ Aside0 (kq ≤ k) ∧ Drawn0 w w')
  case atStart => exact ⟨(0), (by first | rfl | (simp; done) | (simp [*]; done) | (congr 1; unfold wrap64; omega) | (simp; simp only [decide_eq_false_iff_not, decide_eq_true_eq] at *; congr 2; omega)), H', ⟨Nat.le_refl _⟩, by repeat (first | exact Drawn0.refl _ | apply Drawn0.step)⟩
  case round =>
    clear H'
    try clear c1
    try clear p2
    obtain ⟨x5_1, rfl, HA, HK1, ⟨m1, rfl⟩⟩ := hrel
    cases gk with
    | zero => exact absurd HA.out (by simp [transeptlaw12_in.l0])
    | succ k1 =>
      have H := HA.out
      clear HA
      simp only [transeptlaw12_in.l0] at H
      by_cases c3 : x5_1 < (l0.length : Int)
      · rw [if_pos c3] at H
        have c3b0 : decide (x5_1 < (l0.length : Int)) = true := decide_eq_true c3
        by_cases c4 : 0 ≤ x5_1
        · rw [if_pos c4] at H
          have c4b0 : decide (0 ≤ x5_1) = true := decide_eq_true c4
          by_cases c5 : (rdOf ByteArray.empty l0 x5_1).toList = a1.toList
          · rw [if_pos c5] at H
            have c5b0 : ((rdOf ByteArray.empty l0 x5_1).toList == a1.toList) = true := beq_iff_eq.mpr c5
            have c5b1 : ((rdOf ByteArray.empty l0 x5_1).toList != a1.toList) = false := bne_eq_false_iff_eq.mpr c5
            clear c5
            obtain rfl := Option.some.inj H
            have p145 : 0 ≤ (x5_1 : Int) := of_decide_eq_true (by first | (with_reducible assumption) | assumption)
            have q145 : x5_1 < (l0.length : Int) := of_decide_eq_true (by first | (with_reducible assumption) | assumption)
            obtain ⟨ad145, e145, hx145_0⟩ := Kd.at_string HR0.out x5_1 p145 q145
            cases e145
            replace p145 := eq_true p145
            replace q145 := eq_true q145
            go_wp2
            all_goals (try (exfalso; omega))
            all_goals go_ret
            all_goals exact ⟨by first | rfl | (simp; done) | (simp [*]; done) | (simp [Ext.ne_nil_empty]; done), by repeat (first | exact Drawn0.refl _ | apply Drawn0.step)⟩
          · rw [if_neg c5] at H
            have c5b0 : ((rdOf ByteArray.empty l0 x5_1).toList == a1.toList) = false := beq_eq_false_iff_ne.mpr c5
            have c5b1 : ((rdOf ByteArray.empty l0 x5_1).toList != a1.toList) = true := bne_iff_ne.mpr c5
            have H' := Aside0.mk H
            clear H
            have p145 : 0 ≤ (x5_1 : Int) := of_decide_eq_true (by first | (with_reducible assumption) | assumption)
            have q145 : x5_1 < (l0.length : Int) := of_decide_eq_true (by first | (with_reducible assumption) | assumption)
            obtain ⟨ad145, e145, hx145_0⟩ := Kd.at_string HR0.out x5_1 p145 q145
            cases e145
            replace p145 := eq_true p145
            replace q145 := eq_true q145
            go_wp2
            all_goals (try (exfalso; omega))
            go_roundg k1
            case measure => have := HK1.out; omega
            case rel => exact ⟨(wrap64 (x5_1 + 1)), (by first | rfl | (simp; done) | (simp [*]; done) | (congr 1; unfold wrap64; omega) | (simp; simp only [decide_eq_false_iff_not, decide_eq_true_eq] at *; congr 2; omega)), H', ⟨by have := HK1.out; omega⟩, by repeat (first | exact Drawn0.refl _ | apply Drawn0.step)⟩
        · rw [if_neg c4] at H
          exact absurd H (by simp)
      · rw [if_neg c3] at H
        have c3b0 : decide (x5_1 < (l0.length : Int)) = false := decide_eq_false c3
        obtain rfl := Option.some.inj H
        go_wp2
        all_goals (try (exfalso; omega))
        all_goals go_ret
        all_goals exact ⟨by first | rfl | (simp; done) | (simp [*]; done) | (simp [Ext.ne_nil_empty]; done), by repeat (first | exact Drawn0.refl _ | apply Drawn0.step)⟩

/-! ### transeptlaw12_digits: by hand: the digits of a number from 0 on -/
def digL (n : Nat) : List UInt8 := if h : n < 10 then [UInt8.ofNat (48 + n)] else digL (n / 10) ++ [UInt8.ofNat (48 + n % 10)]
termination_by n
decreasing_by omega
theorem digL_small {n : Nat} (h : n < 10) : digL n = [UInt8.ofNat (48 + n)] := by rw [digL, dif_pos h]
theorem digL_big {n : Nat} (h : ¬ n < 10) : digL n = digL (n / 10) ++ [UInt8.ofNat (48 + n % 10)] := by rw [digL, dif_neg h]
theorem digL_length : ∀ (j n : Nat), n < 10 ^ (j + 1) → (digL n).length ≤ j + 1
  | 0, n, h => by rw [digL_small (by simpa using h)]; simp
  | j + 1, n, h => by
    by_cases hn : n < 10
    · rw [digL_small hn]; simp
    · rw [Nat.pow_succ] at h
      have := digL_length j (n / 10) (by omega)
      rw [digL_big hn, List.length_append]
      simp only [List.length_cons, List.length_nil]
      omega
def transeptlaw12_digits.f (_k : Nat) (a0 : Int) : Option ByteArray := if 0 ≤ a0 ∧ a0 < 1000000000 then some (Ext.txt (digL a0.toNat)) else none
theorem transeptlaw12_digits.mono : ∀ a0 k, LeO (transeptlaw12_digits.f k a0) (transeptlaw12_digits.f (k + 1) a0) := fun _ _ => LeO.refl _
set_option maxHeartbeats 4000000 in
set_option maxRecDepth 100000 in
theorem transeptlaw12_digits.at_ (n : Nat) : n < 1000000000 → ∀ (w : World), Calls Tryd.prog 18 #[.int .i64 (n : Int)] w fun e w' => e = .returned (.string (Ext.txt (digL n))) ∧ Below w.heap.size w w' := by
  induction n using Nat.strongRecOn with
  | _ n ih =>
  intro hn w
  have HB := Aside0.mk (Below.refl w.heap.size w)
  have IH := Aside0.mk ih
  clear ih
  have hm : Int.tmod (n : Int) 10 = ((n % 10 : Nat) : Int) := by rw [Int.tmod_eq_emod_of_nonneg (by omega)]; omega
  have hq : Int.tdiv (n : Int) 10 = ((n / 10 : Nat) : Int) := by rw [Int.tdiv_eq_ediv_of_nonneg (by omega)]; omega
  have hcv : (convert 42 9 (.slice (some ⟨w.heap.size, 0, none⟩) 1 1)).run Tryd.prog (w.alloc (Obj.cells #[Value.int IntKind.u8 (48 + (n : Int) % 10)] 5)) = .ok (.string (Ext.txt [UInt8.ofNat (48 + n % 10)])) (w.alloc (Obj.cells #[Value.int IntKind.u8 (48 + (n : Int) % 10)] 5)) := by
    have h := run_convert_bytes_arg (P := Tryd.prog) (w.alloc (Obj.cells #[Value.int IntKind.u8 (48 + (n : Int) % 10)] 5)) 42 5 Tryd.underlying42 Tryd.underlying5 w.heap.size 0 1 1 [48 + (n : Int) % 10] rfl (fun i hi => by
      obtain rfl : i = 0 := by simpa using hi
      simp) 9 Tryd.underlying9
    rw [h]
    congr 2
    all_goals (unfold strOfNums Ext.txt; rw [List.map_cons, List.map_nil, show (48 + (n : Int) % 10).toNat = 48 + n % 10 by omega])
  have hq2 : ((n / 10 : Nat) : Int) = (n : Int) / 10 := by omega
  have HBa := Aside0.mk (below_alloc HB.out (Obj.cells #[Value.int IntKind.u8 (48 + (n : Int) % 10)] 5))
  by_cases h10 : n < 10
  · have hi10 : (n : Int) < 10 := by omega
    have hd : Ext.txt (digL n) = Ext.txt [UInt8.ofNat (48 + n % 10)] := by rw [digL_small h10, Nat.mod_eq_of_lt h10]
    have HD := Aside0.mk hd
    clear hd IH
    generalize Ext.txt [UInt8.ofNat (48 + n % 10)] = U at hcv HD
    go_enter Tryd.func18, Tryd.ntmps18
    go_wp2
    all_goals (try (exfalso; omega))
    all_goals (try (exfalso; omega))
    go_ret
    exact ⟨by first | (rw [HD.out]; done) | (rw [HD.out]; rfl), HBa.out⟩
  · have hi10 : ¬ (n : Int) < 10 := by omega
    have hlen := digL_length 8 (n / 10) (by simp only [Nat.reduceAdd, Nat.reducePow]; omega)
    have hz : (Ext.txt (digL (n / 10))).size ≤ 9 := by rw [Ext.txt_size]; exact hlen
    have hz1 : (Ext.txt [UInt8.ofNat (48 + n % 10)]).size = 1 := by rw [Ext.txt_size]; rfl
    have hsz : (Ext.txt (digL (n / 10))).size + (Ext.txt [UInt8.ofNat (48 + n % 10)]).size ≤ 9223372036854775807 := by omega
    have hrec := IH.out (n / 10) (by omega) (by omega) (w.alloc (Obj.cells #[Value.int IntKind.u8 (48 + (n : Int) % 10)] 5))
    rw [hq2] at hrec
    have HREC := Aside0.mk hrec
    have hd : Ext.txt (digL n) = Ext.txt (digL (n / 10)) ++ Ext.txt [UInt8.ofNat (48 + n % 10)] := by
      rw [digL_big h10]
      apply Ext.data_inj
      simp [Ext.txt_data]
    have HD := Aside0.mk hd
    clear hd IH hrec hlen
    generalize Ext.txt (digL (n / 10)) = T at HREC HD hz hsz
    generalize Ext.txt [UInt8.ofNat (48 + n % 10)] = U at hcv HD hz1 hsz
    go_enter Tryd.func18, Tryd.ntmps18
    go_wp2_with fail
    all_goals (try (exfalso; omega))
    all_goals (try (exfalso; omega))
    refine HREC.out.mono ?_
    rintro e_ w1 ⟨rfl, hb1⟩
    have HB1 := Aside0.mk (below_step HBa.out hb1)
    clear hb1 HREC
    go_wp2
    all_goals (try (exfalso; omega))
    all_goals (try (exfalso; omega))
    go_ret
    exact ⟨by first | (rw [HD.out]; done) | (rw [HD.out]; rfl), HB1.out⟩
theorem transeptlaw12_digits.calls (k : Nat) (a0 : Int) (r : ByteArray) (w : World) (h : transeptlaw12_digits.f k a0 = some r) :
    Calls Tryd.prog 18 #[.int .i64 a0] w fun e w' => e = .returned (.string r) ∧ Below w.heap.size w w' := by
  unfold transeptlaw12_digits.f at h
  split at h
  · rename_i hb
    obtain rfl := Option.some.inj h
    have := transeptlaw12_digits.at_ a0.toNat (by omega) w
    rw [show ((a0.toNat : Nat) : Int) = a0 by omega] at this
    exact this
  · cases h

end Go.Proofs.YtikhboebmmmopaaDoor.Fun
