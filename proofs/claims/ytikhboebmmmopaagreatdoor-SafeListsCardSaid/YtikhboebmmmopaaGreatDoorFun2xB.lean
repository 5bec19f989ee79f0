-- Written by xprint.py, a program of this session's, by means of the kit's print. Not trusted: Lean checks it.
import Derived.Test.YtikhboebmmmopaaGreatDoorFun0
import Derived.Test.YtikhboebmmmopaaGreatDoorFun1xB
namespace Go.Proofs.YtikhboebmmmopaaGreatDoor.Fun
open Go.RowKit Go.Proofs.YtikhboebmmmopaaGreatDoorW.PrintWords Go.Proofs.YtikhboebmmmopaaGreatDoorW.PrintLast Go.Proofs.YtikhboebmmmopaaGreatDoorW.PrintMore
attribute [local go_sem] max2_int min2_int max_two min_two max_three min_three max_four min_four   -- for this text's walks alone
set_option linter.unusedVariables false
set_option linter.unusedSimpArgs false

/-! ### transeptlaw12.shown, by hand: it always answers true -/
def transeptlaw12_shown.f (_k : Nat) : Option Bool := some true
theorem transeptlaw12_shown.uns : safe_Unsafe.f 60 [(⟨(⟨#[88, 45, 97]⟩ : ByteArray), (⟨#[49]⟩ : ByteArray)⟩ : S28), (⟨(⟨#[97, 99, 99, 101, 112, 116]⟩ : ByteArray), (⟨#[50]⟩ : ByteArray)⟩ : S28)] = some [(⟨#[120, 45, 97]⟩ : ByteArray)] := by
  have h1 : safe_Unsafe.f 60 [(⟨(⟨#[88, 45, 97]⟩ : ByteArray), (⟨#[49]⟩ : ByteArray)⟩ : S28), (⟨(⟨#[97, 99, 99, 101, 112, 116]⟩ : ByteArray), (⟨#[50]⟩ : ByteArray)⟩ : S28)] = (field_Names.f [(⟨(⟨#[88, 45, 97]⟩ : ByteArray), (⟨#[49]⟩ : ByteArray)⟩ : S28)]).bind fun t => some t := by kernel_rfl
  have h2 : field_Names.f [(⟨(⟨#[88, 45, 97]⟩ : ByteArray), (⟨#[49]⟩ : ByteArray)⟩ : S28)] = some [(⟨#[120, 45, 97]⟩ : ByteArray)] := by
    unfold field_Names.f
    rw [if_pos (by decide +kernel)]
    have h3 : [(⟨(⟨#[88, 45, 97]⟩ : ByteArray), (⟨#[49]⟩ : ByteArray)⟩ : S28)].map field_Names.key = [[120, 45, 97]] := by decide +kernel
    rw [h3, Plain.nm_one]
    rfl
  rw [h1, h2]
  rfl
theorem transeptlaw12_shown.facts : safe_Method.f 60 (⟨#[103, 101, 116]⟩ : ByteArray) = some true ∧ safe_Method.f 60 (⟨#[80, 85, 84]⟩ : ByteArray) = some false ∧ Ext.safe_Header.f (⟨#[67, 111, 110, 116, 101, 110, 116, 45, 84, 121, 112, 101]⟩ : ByteArray) (⟨#[116, 101, 120, 116, 47, 112, 108, 97, 105, 110]⟩ : ByteArray) = some true ∧ Ext.safe_Header.f (⟨#[99, 111, 110, 116, 101, 110, 116, 45, 116, 121, 112, 101]⟩ : ByteArray) (⟨#[97, 112, 112, 108, 105, 99, 97, 116, 105, 111, 110, 47, 106, 115, 111, 110]⟩ : ByteArray) = some false ∧ Ext.safe_Header.f (⟨#[114, 97, 110, 103, 101]⟩ : ByteArray) (⟨#[98, 121, 116, 101, 115, 61, 49, 45, 50]⟩ : ByteArray) = some true ∧ Ext.safe_Header.f (⟨#[114, 97, 110, 103, 101]⟩ : ByteArray) (⟨#[98, 121, 116, 101, 115, 61, 51, 45, 50]⟩ : ByteArray) = some false ∧ safe_Never.f 60 (⟨#[83, 101, 99, 45, 120]⟩ : ByteArray) = some true ∧ safe_Reads.f 60 (⟨#[101, 120, 112, 105, 114, 101, 115]⟩ : ByteArray) = some true ∧ safe_Hidden.f (⟨#[83, 101, 116, 45, 67, 111, 111, 107, 105, 101]⟩ : ByteArray) = some true := by
  refine ⟨?_, ?_, ?_, ?_, ?_, ?_, ?_, ?_, ?_⟩ <;> decide +kernel
set_option maxHeartbeats 4000000 in
set_option maxRecDepth 100000 in
theorem transeptlaw12_shown.calls (k : Nat) (r : Bool) (w : World) (hT : Ext.Tabs w) (h : transeptlaw12_shown.f k = some r) :
    Calls Tryz.prog 5 #[] w fun e w' => e = .returned (.bool r) ∧ Below w.heap.size w w' := by
  obtain rfl := Option.some.inj h
  obtain ⟨h1, h2, h3, h4, h5, h6, h7, h8, h9⟩ := transeptlaw12_shown.facts
  obtain ⟨any, hany⟩ : ∃ l : List S28, l = [(⟨(⟨#[88, 45, 97]⟩ : ByteArray), (⟨#[49]⟩ : ByteArray)⟩ : S28), (⟨(⟨#[97, 99, 99, 101, 112, 116]⟩ : ByteArray), (⟨#[50]⟩ : ByteArray)⟩ : S28)] := ⟨_, rfl⟩
  have HUNS := Aside0.mk (show safe_Unsafe.f 60 any = some [(⟨#[120, 45, 97]⟩ : ByteArray)] by rw [hany]; exact transeptlaw12_shown.uns)
  have HANY := Aside0.mk hany
  have HB := Aside0.mk (Below.refl w.heap.size w)
  have HT := Aside0.mk hT
  have A1 := Aside0.mk h1
  have A2 := Aside0.mk h2
  have A3 := Aside0.mk h3
  have A4 := Aside0.mk h4
  have A5 := Aside0.mk h5
  have A6 := Aside0.mk h6
  have A7 := Aside0.mk h7
  have A8 := Aside0.mk h8
  have A9 := Aside0.mk h9
  clear h hT hany h1 h2 h3 h4 h5 h6 h7 h8 h9
  go_enter Tryz.func5, Tryz.ntmps5
  go_wp2_with (first | ((with_reducible refine gate_dst (N := 4) rfl ?_); (try (refine gate_guard (by rfl) ?_; dsimp only)); refine Kd.R_lit k28 _ 28 ?hg (N := 4) ?hd (xs := ([(⟨(⟨#[88, 45, 97]⟩ : ByteArray), (⟨#[49]⟩ : ByteArray)⟩ : S28), (⟨(⟨#[97, 99, 99, 101, 112, 116]⟩ : ByteArray), (⟨#[50]⟩ : ByteArray)⟩ : S28)] : List S28)) (inner := [.string (⟨#[88, 45, 97]⟩ : ByteArray), .string (⟨#[49]⟩ : ByteArray), .string (⟨#[97, 99, 99, 101, 112, 116]⟩ : ByteArray), .string (⟨#[50]⟩ : ByteArray)]) (ok := fun _ => True) (okp := fun _ => True) ?hr ?hp (fun _ hk => hk) trivial (Below.refl _ _) (Nat.le_refl _) (by simp) ?_; (case hd => rfl); (case hg => rfl); (case hr => first | (go_simp; done) | (go_simp; rfl)); (case hp => exact (Reps.c2 (show Kd.M k28 _ _ _ (⟨(⟨#[88, 45, 97]⟩ : ByteArray), (⟨#[49]⟩ : ByteArray)⟩ : S28) [.string (⟨#[88, 45, 97]⟩ : ByteArray), .string (⟨#[49]⟩ : ByteArray)] from (k28_mkM _ _ _ (⟨(⟨#[88, 45, 97]⟩ : ByteArray), (⟨#[49]⟩ : ByteArray)⟩ : S28))) (Reps.c2 (show Kd.M k28 _ _ _ (⟨(⟨#[97, 99, 99, 101, 112, 116]⟩ : ByteArray), (⟨#[50]⟩ : ByteArray)⟩ : S28) [.string (⟨#[97, 99, 99, 101, 112, 116]⟩ : ByteArray), .string (⟨#[50]⟩ : ByteArray)] from (k28_mkM _ _ _ (⟨(⟨#[97, 99, 99, 101, 112, 116]⟩ : ByteArray), (⟨#[50]⟩ : ByteArray)⟩ : S28))) (Reps.none _ _)))); intro vA w' ho hb hg_ hnew_; clear hg_ hnew_; rw [← HANY.out] at ho; have n0_ := Aside0.mk (Kd.R_lower ho (below_size (by repeat (first | (with_reducible first | exact HB.out | apply below_alloc | apply pw_below_drewN | apply below_drew1) | exact HB.out)))); have n1_ := Aside0.mk (below_step (by repeat (first | (with_reducible first | exact HB.out | apply below_alloc | apply pw_below_drewN | apply below_drew1) | exact HB.out)) hb); clear HB; have HOA := n0_; have HB := n1_; clear n0_ n1_ hb ho))
  all_goals (try (exfalso; omega))
  obtain ⟨AA, cA, eA⟩ := Kd.R_slice HOA.out
  subst eA
  refine (safe_Unsafe.calls 60 _ _ any _ _ (Ext.tabs_at HT.out HB.out) (Kd.R_reads' HOA.out).2.2 (Kd.R_reads' HOA.out).2.1 HUNS.out).mono ?_
  rintro e_ W0 ⟨v0, rfl, hR0, hb⟩
  have HOR := Aside0.mk hR0
  have N2 := Aside0.mk (below_step HB.out hb)
  clear HOA HB hb hR0 HUNS HANY
  have HB := N2
  clear N2
  obtain ⟨AR, cR, eR⟩ := Kd.R_slice HOR.out
  subst eR
  go_wp2_with fail
  all_goals (try (exfalso; omega))
  refine (safe_Method.calls 60 (⟨#[103, 101, 116]⟩ : ByteArray) true _ A1.out).mono ?_
  rintro e_ W1 ⟨rfl, hb⟩
  have N1 := Aside0.mk (Kd.R_below HOR.out hb)
  have N2 := Aside0.mk (below_step HB.out hb)
  clear HOR HB hb
  have HOR := N1
  have HB := N2
  clear N1 N2
  go_wp2_with fail
  all_goals (try (exfalso; omega))
  refine (safe_Method.calls 60 (⟨#[80, 85, 84]⟩ : ByteArray) false _ A2.out).mono ?_
  rintro e_ W2 ⟨rfl, hb⟩
  have N1 := Aside0.mk (Kd.R_below HOR.out hb)
  have N2 := Aside0.mk (below_step HB.out hb)
  clear HOR HB hb
  have HOR := N1
  have HB := N2
  clear N1 N2
  go_wp2_with fail
  all_goals (try (exfalso; omega))
  refine (Ext.safe_Header.calls (⟨#[67, 111, 110, 116, 101, 110, 116, 45, 84, 121, 112, 101]⟩ : ByteArray) (⟨#[116, 101, 120, 116, 47, 112, 108, 97, 105, 110]⟩ : ByteArray) true _ (Ext.tabs_at HT.out HB.out) A3.out).mono ?_
  rintro e_ W3 ⟨rfl, hb⟩
  have N1 := Aside0.mk (Kd.R_below HOR.out hb)
  have N2 := Aside0.mk (below_step HB.out hb)
  clear HOR HB hb
  have HOR := N1
  have HB := N2
  clear N1 N2
  go_wp2_with fail
  all_goals (try (exfalso; omega))
  refine (Ext.safe_Header.calls (⟨#[99, 111, 110, 116, 101, 110, 116, 45, 116, 121, 112, 101]⟩ : ByteArray) (⟨#[97, 112, 112, 108, 105, 99, 97, 116, 105, 111, 110, 47, 106, 115, 111, 110]⟩ : ByteArray) false _ (Ext.tabs_at HT.out HB.out) A4.out).mono ?_
  rintro e_ W4 ⟨rfl, hb⟩
  have N1 := Aside0.mk (Kd.R_below HOR.out hb)
  have N2 := Aside0.mk (below_step HB.out hb)
  clear HOR HB hb
  have HOR := N1
  have HB := N2
  clear N1 N2
  go_wp2_with fail
  all_goals (try (exfalso; omega))
  refine (Ext.safe_Header.calls (⟨#[114, 97, 110, 103, 101]⟩ : ByteArray) (⟨#[98, 121, 116, 101, 115, 61, 49, 45, 50]⟩ : ByteArray) true _ (Ext.tabs_at HT.out HB.out) A5.out).mono ?_
  rintro e_ W5 ⟨rfl, hb⟩
  have N1 := Aside0.mk (Kd.R_below HOR.out hb)
  have N2 := Aside0.mk (below_step HB.out hb)
  clear HOR HB hb
  have HOR := N1
  have HB := N2
  clear N1 N2
  go_wp2_with fail
  all_goals (try (exfalso; omega))
  refine (Ext.safe_Header.calls (⟨#[114, 97, 110, 103, 101]⟩ : ByteArray) (⟨#[98, 121, 116, 101, 115, 61, 51, 45, 50]⟩ : ByteArray) false _ (Ext.tabs_at HT.out HB.out) A6.out).mono ?_
  rintro e_ W6 ⟨rfl, hb⟩
  have N1 := Aside0.mk (Kd.R_below HOR.out hb)
  have N2 := Aside0.mk (below_step HB.out hb)
  clear HOR HB hb
  have HOR := N1
  have HB := N2
  clear N1 N2
  have HCC := Aside0.mk (Kd.R_reads' HOR.out).2.2
  obtain ⟨ad0, e0, hx0⟩ := Kd.at_string HCC.out 0 (by decide) (by decide)
  cases e0
  rw [show rdOf ByteArray.empty [(⟨#[120, 45, 97]⟩ : ByteArray)] 0 = (⟨#[120, 45, 97]⟩ : ByteArray) from rfl] at hx0
  have hy0 : W6.cell? ad0 = some (.string (⟨#[120, 45, 97]⟩ : ByteArray)) := by rw [show ad0.add (0 : Int).toNat = ad0 from by simp [Addr.add]] at hx0; exact hx0
  clear HCC hx0
  go_wp2_with fail
  all_goals (try (exfalso; omega))
  refine (safe_Never.calls 60 (⟨#[83, 101, 99, 45, 120]⟩ : ByteArray) true _ A7.out).mono ?_
  rintro e_ W7 ⟨rfl, hb⟩
  have N1 := Aside0.mk (Kd.R_below HOR.out hb)
  have N2 := Aside0.mk (below_step HB.out hb)
  clear HOR HB hb
  clear hy0
  have HOR := N1
  have HB := N2
  clear N1 N2
  go_wp2_with fail
  all_goals (try (exfalso; omega))
  refine (safe_Reads.calls 60 (⟨#[101, 120, 112, 105, 114, 101, 115]⟩ : ByteArray) true _ A8.out).mono ?_
  rintro e_ W8 ⟨rfl, hb⟩
  have N1 := Aside0.mk (Kd.R_below HOR.out hb)
  have N2 := Aside0.mk (below_step HB.out hb)
  clear HOR HB hb
  have HOR := N1
  have HB := N2
  clear N1 N2
  go_wp2_with fail
  all_goals (try (exfalso; omega))
  refine (safe_Hidden.calls (⟨#[83, 101, 116, 45, 67, 111, 111, 107, 105, 101]⟩ : ByteArray) true _ A9.out).mono ?_
  rintro e_ W9 ⟨rfl, hb⟩
  have N1 := Aside0.mk (Kd.R_below HOR.out hb)
  have N2 := Aside0.mk (below_step HB.out hb)
  clear HOR HB hb
  have HOR := N1
  have HB := N2
  clear N1 N2
  go_wp2
  all_goals (try (exfalso; omega))
  go_ret
  exact ⟨rfl, HB.out⟩

/-! ### transeptref12_among: function 21 -/
def transeptref12_among.l0 : Nat → List ByteArray → ByteArray → Int → Option (Bool)
  | 0, _, _, _ => none
  | k + 1, x0, x1, x5 => if x5 < (x0.length : Int) then (if 0 ≤ x5 then (if (rdOf ByteArray.empty x0 x5).toList = x1.toList then (some true) else (transeptref12_among.l0 k x0 x1 (wrap64 (x5 + 1)))) else (none)) else (some false)
def transeptref12_among.f (k : Nat) (l0 : List ByteArray) (a1 : ByteArray) : Option (Bool) := transeptref12_among.l0 k l0 a1 0
set_option maxHeartbeats 8000000 in
set_option maxRecDepth 100000 in
theorem transeptref12_among.calls (k : Nat) (A0 : Option Addr) (c0 : Nat) (l0 : List ByteArray) (a1 : ByteArray) (r : Bool) (w : World) (hr0 : Kd.C Kd.string w A0 l0.length l0) (hc0 : l0.length ≤ c0) (h : transeptref12_among.f k l0 a1 = some r) :
    Calls Tryz.prog 21 #[.slice A0 l0.length c0, .string a1] w fun e w' => e = .returned (.bool r) ∧ Drawn0 w w' := by
  have HR0 := Aside0.mk hr0
  have HC0 := Aside0.mk hc0
  clear hr0 hc0
  have H : (transeptref12_among.l0 k l0 a1 0) = some r := h
  clear h
  have H' := Aside0.mk H
  clear H
  go_enter Tryz.func21, Tryz.ntmps21
  go_wp2
  all_goals (try (exfalso; omega))
  go_loopg [5] k (fun kq v5 w' => ∃ (x5_1 : Int), v5 = .int .i64 x5_1 ∧ Aside0 (transeptref12_among.l0 kq l0 a1 x5_1 = some r) ∧ Aside0 (kq ≤ k) ∧ Drawn0 w w')
  case atStart => exact ⟨(0), (by first | rfl | (simp; done) | (simp [*]; done) | (congr 1; unfold wrap64; omega) | (simp; simp only [decide_eq_false_iff_not, decide_eq_true_eq] at *; congr 2; omega)), H', ⟨Nat.le_refl _⟩, by repeat (first | exact Drawn0.refl _ | apply Drawn0.step)⟩
  case round =>
    clear H'
    try clear c2
    try clear p2
    obtain ⟨x5_1, rfl, HA, HK1, ⟨m1, rfl⟩⟩ := hrel
    cases gk with
    | zero => exact absurd HA.out (by simp [transeptref12_among.l0])
    | succ k1 =>
      have H := HA.out
      clear HA
      simp only [transeptref12_among.l0] at H
      by_cases c3 : x5_1 < (l0.length : Int)
      · rw [if_pos c3] at H
        have c3b0 : decide (x5_1 < (l0.length : Int)) = true := decide_eq_true c3
        by_cases c4 : 0 ≤ x5_1
        · rw [if_pos c4] at H
          have c4b0 : decide (0 ≤ x5_1) = true := decide_eq_true c4
          by_cases c5 : (rdOf ByteArray.empty l0 x5_1).toList = a1.toList
          · rw [if_pos c5] at H
            have c5b0 : ((rdOf ByteArray.empty l0 x5_1).toList == a1.toList) = true := beq_iff_eq.mpr c5
            have c5b1 : ((rdOf ByteArray.empty l0 x5_1).toList != a1.toList) = false := bne_eq_false_iff_eq.mpr c5
            clear c5
            obtain rfl := Option.some.inj H
            have p145 : 0 ≤ (x5_1 : Int) := of_decide_eq_true (by first | (with_reducible assumption) | assumption)
            have q145 : x5_1 < (l0.length : Int) := of_decide_eq_true (by first | (with_reducible assumption) | assumption)
            obtain ⟨ad145, e145, hx145_0⟩ := Kd.at_string HR0.out x5_1 p145 q145
            cases e145
            replace p145 := eq_true p145
            replace q145 := eq_true q145
            go_wp2
            all_goals (try (exfalso; omega))
            all_goals go_ret
            all_goals exact ⟨by first | rfl | (simp; done) | (simp [*]; done) | (simp [Ext.ne_nil_empty]; done), by repeat (first | exact Drawn0.refl _ | apply Drawn0.step)⟩
          · rw [if_neg c5] at H
            have c5b0 : ((rdOf ByteArray.empty l0 x5_1).toList == a1.toList) = false := beq_eq_false_iff_ne.mpr c5
            have c5b1 : ((rdOf ByteArray.empty l0 x5_1).toList != a1.toList) = true := bne_iff_ne.mpr c5
            have H' := Aside0.mk H
            clear H
            have p145 : 0 ≤ (x5_1 : Int) := of_decide_eq_true (by first | (with_reducible assumption) | assumption)
            have q145 : x5_1 < (l0.length : Int) := of_decide_eq_true (by first | (with_reducible assumption) | assumption)
            obtain ⟨ad145, e145, hx145_0⟩ := Kd.at_string HR0.out x5_1 p145 q145
            cases e145
            replace p145 := eq_true p145
            replace q145 := eq_true q145
            go_wp2
            all_goals (try (exfalso; omega))
            go_roundg k1
            case measure => have := HK1.out; omega
            case rel => exact ⟨(wrap64 (x5_1 + 1)), (by first | rfl | (simp; done) | (simp [*]; done) | (congr 1; unfold wrap64; omega) | (simp; simp only [decide_eq_false_iff_not, decide_eq_true_eq] at *; congr 2; omega)), H', ⟨by have := HK1.out; omega⟩, by repeat (first | exact Drawn0.refl _ | apply Drawn0.step)⟩
        · rw [if_neg c4] at H
          exact absurd H (by simp)
      · rw [if_neg c3] at H
        have c3b0 : decide (x5_1 < (l0.length : Int)) = false := decide_eq_false c3
        obtain rfl := Option.some.inj H
        go_wp2
        all_goals (try (exfalso; omega))
        all_goals go_ret
        all_goals exact ⟨by first | rfl | (simp; done) | (simp [*]; done) | (simp [Ext.ne_nil_empty]; done), by repeat (first | exact Drawn0.refl _ | apply Drawn0.step)⟩

-- GIVEN ELSEWHERE: function 36 (Ext.ref09_turned)

/-! ### transeptref09_Method: function 22 -/
/-! ### transeptref12_Method: function 7 -/
/-! ### transeptref09_Lower: function 25 -/
def transeptref09_Lower.f (a0 : ByteArray) : Option (ByteArray) := (Ext.ref09_turned.f a0 65 32).bind fun t156 => (some t156)
set_option maxHeartbeats 8000000 in
set_option maxRecDepth 100000 in
theorem transeptref09_Lower.calls (a0 : ByteArray) (r : ByteArray) (w : World) (h : transeptref09_Lower.f a0 = some r) :
    Calls Tryz.prog 25 #[.string a0] w fun e w' => e = .returned (.string r) ∧ Below w.heap.size w w' := by
  have HB := Aside0.mk (Below.refl w.heap.size w)
  have H : ((Ext.ref09_turned.f a0 65 32).bind fun t156 => (some t156)) = some r := h
  clear h
  replace H := Option.bind_eq_some_iff.mp H
  obtain ⟨t156, A20, H⟩ := H
  replace H : (some t156) = some r := H
  have A2 := Aside0.mk A20
  clear A20
  obtain rfl := Option.some.inj H
  go_enter Tryz.func25, Tryz.ntmps25
  go_wp2_with (first | ((with_reducible refine gate_callee (f := 36) rfl ?_); refine goesL_ (some 4) rfl rfl Tryz.func36 (by kernel_rfl) rfl #[.string a0, .int .u8 65, .int .u8 32] rfl (by (try simp only [List.map_toArray, List.map_cons, List.map_nil]); first | done | rfl | (simp only [List.length_drop, List.length_take]; rfl)) ?_; (with_reducible refine (Ext.ref09_turned.calls a0 65 32 t156 _ A2.out).mono ?_); rintro e w3 ⟨rfl, hb⟩; refine ⟨_, rfl, ?_⟩; have n0_ := Aside0.mk (below_step (by repeat (first | (with_reducible first | exact HB.out | apply below_alloc | apply pw_below_drewN | apply below_drew1) | exact HB.out)) hb); clear HB; have HB := n0_; clear n0_; (try clear hb); (try clear hb2); (try clear hk); (try clear hi)))
  all_goals (try (exfalso; omega))
  all_goals go_ret
  all_goals exact ⟨by first | rfl | (simp [errW_none, errW_some] <;> rfl) | (simp [*, errW_none, errW_some] <;> rfl) | (simp [Ext.ne_nil_empty]; done), by repeat (first | (with_reducible first | exact HB.out | apply below_alloc | apply pw_below_drewN | apply below_drew1) | exact HB.out)⟩

/-! ### transeptref09_In: function 43 -/
def transeptref09_In.l0 : Nat → ByteArray → Int → Int → Option (Bool)
  | 0, _, _, _ => none
  | k + 1, x0, x1, x5 => if x5 < (x0.size : Int) then (if 0 ≤ x5 then (if (bt x0 x5) = x1 then (some true) else (transeptref09_In.l0 k x0 x1 (wrap64 (x5 + 1)))) else (none)) else (some false)
def transeptref09_In.f (k : Nat) (a0 : ByteArray) (a1 : Int) : Option (Bool) := transeptref09_In.l0 k a0 a1 0
set_option maxHeartbeats 8000000 in
set_option maxRecDepth 100000 in
theorem transeptref09_In.calls (k : Nat) (a0 : ByteArray) (a1 : Int) (r : Bool) (w : World) (h : transeptref09_In.f k a0 a1 = some r) :
    Calls Tryz.prog 43 #[.string a0, .int .u8 a1] w fun e w' => e = .returned (.bool r) ∧ Drawn0 w w' := by
  have H : (transeptref09_In.l0 k a0 a1 0) = some r := h
  clear h
  have H' := Aside0.mk H
  clear H
  go_enter Tryz.func43, Tryz.ntmps43
  go_wp2
  all_goals (try (exfalso; omega))
  go_loopg [5] k (fun kq v5 w' => ∃ (x5_1 : Int), v5 = .int .i64 x5_1 ∧ Aside0 (transeptref09_In.l0 kq a0 a1 x5_1 = some r) ∧ Aside0 (kq ≤ k) ∧ Drawn0 w w')
  case atStart => exact ⟨(0), (by first | rfl | (simp; done) | (simp [*]; done) | (congr 1; unfold wrap64; omega) | (simp; simp only [decide_eq_false_iff_not, decide_eq_true_eq] at *; congr 2; omega)), H', ⟨Nat.le_refl _⟩, by repeat (first | exact Drawn0.refl _ | apply Drawn0.step)⟩
  case round =>
    clear H'
    try clear p2
    obtain ⟨x5_1, rfl, HA, HK1, ⟨m1, rfl⟩⟩ := hrel
    cases gk with
    | zero => exact absurd HA.out (by simp [transeptref09_In.l0])
    | succ k1 =>
      have H := HA.out
      clear HA
      simp only [transeptref09_In.l0] at H
      by_cases c3 : x5_1 < (a0.size : Int)
      · rw [if_pos c3] at H
        have c3b0 : decide (x5_1 < (a0.size : Int)) = true := decide_eq_true c3
        by_cases c4 : 0 ≤ x5_1
        · rw [if_pos c4] at H
          have c4b0 : decide (0 ≤ x5_1) = true := decide_eq_true c4
          by_cases c6 : (bt a0 x5_1) = a1
          · rw [if_pos c6] at H
            have c6b0 : ((bt a0 x5_1) == a1) = true := beq_iff_eq.mpr c6
            have c6b1 : ((bt a0 x5_1) != a1) = false := bne_eq_false_iff_eq.mpr c6
            clear c6
            obtain rfl := Option.some.inj H
            have p5 : 0 ≤ (x5_1 : Int) := of_decide_eq_true (by first | (with_reducible assumption) | assumption)
            have q5 : x5_1 < (a0.size : Int) := of_decide_eq_true (by first | (with_reducible assumption) | assumption)
            have hx5 := bt_at a0 x5_1
            replace p5 := eq_true p5
            replace q5 := eq_true q5
            go_wp2
            all_goals (try (exfalso; omega))
            all_goals go_ret
            all_goals exact ⟨by first | rfl | (simp; done) | (simp [*]; done) | (simp [Ext.ne_nil_empty]; done), by repeat (first | exact Drawn0.refl _ | apply Drawn0.step)⟩
          · rw [if_neg c6] at H
            have c6b0 : ((bt a0 x5_1) == a1) = false := beq_eq_false_iff_ne.mpr c6
            have c6b1 : ((bt a0 x5_1) != a1) = true := bne_iff_ne.mpr c6
            have H' := Aside0.mk H
            clear H
            have p5 : 0 ≤ (x5_1 : Int) := of_decide_eq_true (by first | (with_reducible assumption) | assumption)
            have q5 : x5_1 < (a0.size : Int) := of_decide_eq_true (by first | (with_reducible assumption) | assumption)
            have hx5 := bt_at a0 x5_1
            replace p5 := eq_true p5
            replace q5 := eq_true q5
            go_wp2
            all_goals (try (exfalso; omega))
            go_roundg k1
            case measure => have := HK1.out; omega
            case rel => exact ⟨(wrap64 (x5_1 + 1)), (by first | rfl | (simp; done) | (simp [*]; done) | (congr 1; unfold wrap64; omega) | (simp; simp only [decide_eq_false_iff_not, decide_eq_true_eq] at *; congr 2; omega)), H', ⟨by have := HK1.out; omega⟩, by repeat (first | exact Drawn0.refl _ | apply Drawn0.step)⟩
        · rw [if_neg c4] at H
          exact absurd H (by simp)
      · rw [if_neg c3] at H
        have c3b0 : decide (x5_1 < (a0.size : Int)) = false := decide_eq_false c3
        obtain rfl := Option.some.inj H
        go_wp2
        all_goals (try (exfalso; omega))
        all_goals go_ret
        all_goals exact ⟨by first | rfl | (simp; done) | (simp [*]; done) | (simp [Ext.ne_nil_empty]; done), by repeat (first | exact Drawn0.refl _ | apply Drawn0.step)⟩

/-! ### transeptref12_odd: function 26 -/
def transeptref12_odd.l0 : Nat → ByteArray → Int → Option (Bool)
  | 0, _, _ => none
  | k + 1, x0, x3 => if x3 < (x0.size : Int) then (if 0 ≤ x3 then (if (bt x0 x3) < 32 then (if (bt x0 x3) = 9 then (if (bt x0 x3) = 127 then (some true) else ((transeptref09_In.f k (⟨#[34, 40, 41, 58, 60, 62, 63, 64, 91, 92, 93, 123, 125]⟩ : ByteArray) (bt x0 x3)).bind fun t157 => (if t157 = true then (some true) else (transeptref12_odd.l0 k x0 (wrap64 (x3 + 1)))))) else (some true)) else (if (bt x0 x3) = 127 then (some true) else ((transeptref09_In.f k (⟨#[34, 40, 41, 58, 60, 62, 63, 64, 91, 92, 93, 123, 125]⟩ : ByteArray) (bt x0 x3)).bind fun t158 => (if t158 = true then (some true) else (transeptref12_odd.l0 k x0 (wrap64 (x3 + 1))))))) else (none)) else (some false)
def transeptref12_odd.f (k : Nat) (a0 : ByteArray) : Option (Bool) := transeptref12_odd.l0 k a0 0
set_option maxHeartbeats 8000000 in
set_option maxRecDepth 100000 in
theorem transeptref12_odd.calls (k : Nat) (a0 : ByteArray) (r : Bool) (w : World) (h : transeptref12_odd.f k a0 = some r) :
    Calls Tryz.prog 26 #[.string a0] w fun e w' => e = .returned (.bool r) ∧ Drawn0 w w' := by
  have H : (transeptref12_odd.l0 k a0 0) = some r := h
  clear h
  have H' := Aside0.mk H
  clear H
  go_enter Tryz.func26, Tryz.ntmps26
  go_wp2
  all_goals (try (exfalso; omega))
  go_loopg [3] k (fun kq v3 w' => ∃ (x3_1 : Int), v3 = .int .i64 x3_1 ∧ Aside0 (transeptref12_odd.l0 kq a0 x3_1 = some r) ∧ Aside0 (kq ≤ k) ∧ Drawn0 w w')
  case atStart => exact ⟨(0), (by first | rfl | (simp; done) | (simp [*]; done) | (congr 1; unfold wrap64; omega) | (simp; simp only [decide_eq_false_iff_not, decide_eq_true_eq] at *; congr 2; omega)), H', ⟨Nat.le_refl _⟩, by repeat (first | exact Drawn0.refl _ | apply Drawn0.step)⟩
  case round =>
    clear H'
    obtain ⟨x3_1, rfl, HA, HK1, ⟨m1, rfl⟩⟩ := hrel
    cases gk with
    | zero => exact absurd HA.out (by simp [transeptref12_odd.l0])
    | succ k1 =>
      have H := HA.out
      clear HA
      simp only [transeptref12_odd.l0] at H
      by_cases c2 : x3_1 < (a0.size : Int)
      · rw [if_pos c2] at H
        have c2b0 : decide (x3_1 < (a0.size : Int)) = true := decide_eq_true c2
        by_cases c3 : 0 ≤ x3_1
        · rw [if_pos c3] at H
          have c3b0 : decide (0 ≤ x3_1) = true := decide_eq_true c3
          by_cases c5 : (bt a0 x3_1) < 32
          · rw [if_pos c5] at H
            have c5b0 : decide ((bt a0 x3_1) < 32) = true := decide_eq_true c5
            by_cases c7 : (bt a0 x3_1) = 9
            · rw [if_pos c7] at H
              have c7b0 : ((bt a0 x3_1) == 9) = true := beq_iff_eq.mpr c7
              have c7b1 : ((bt a0 x3_1) != 9) = false := bne_eq_false_iff_eq.mpr c7
              clear c7
              by_cases c9 : (bt a0 x3_1) = 127
              · rw [if_pos c9] at H
                have c9b0 : ((bt a0 x3_1) == 127) = true := beq_iff_eq.mpr c9
                have c9b1 : ((bt a0 x3_1) != 127) = false := bne_eq_false_iff_eq.mpr c9
                clear c9
                obtain rfl := Option.some.inj H
                have p4 : 0 ≤ (x3_1 : Int) := of_decide_eq_true (by first | (with_reducible assumption) | assumption)
                have q4 : x3_1 < (a0.size : Int) := of_decide_eq_true (by first | (with_reducible assumption) | assumption)
                have hx4 := bt_at a0 x3_1
                replace p4 := eq_true p4
                replace q4 := eq_true q4
                have p6 : 0 ≤ (x3_1 : Int) := of_decide_eq_true (by first | (with_reducible assumption) | assumption)
                have q6 : x3_1 < (a0.size : Int) := of_decide_eq_true (by first | (with_reducible assumption) | assumption)
                have hx6 := bt_at a0 x3_1
                replace p6 := eq_true p6
                replace q6 := eq_true q6
                have p8 : 0 ≤ (x3_1 : Int) := of_decide_eq_true (by first | (with_reducible assumption) | assumption)
                have q8 : x3_1 < (a0.size : Int) := of_decide_eq_true (by first | (with_reducible assumption) | assumption)
                have hx8 := bt_at a0 x3_1
                replace p8 := eq_true p8
                replace q8 := eq_true q8
                go_wp2
                all_goals (try (exfalso; omega))
                all_goals go_ret
                all_goals exact ⟨by first | rfl | (simp; done) | (simp [*]; done) | (simp [Ext.ne_nil_empty]; done), by repeat (first | exact Drawn0.refl _ | apply Drawn0.step)⟩
              · rw [if_neg c9] at H
                have c9b0 : ((bt a0 x3_1) == 127) = false := beq_eq_false_iff_ne.mpr c9
                have c9b1 : ((bt a0 x3_1) != 127) = true := bne_iff_ne.mpr c9
                replace H := Option.bind_eq_some_iff.mp H
                obtain ⟨t157, A110, H⟩ := H
                replace H : (if t157 = true then (some true) else (transeptref12_odd.l0 k1 a0 (wrap64 (x3_1 + 1)))) = some r := H
                have A11 := Aside0.mk A110
                clear A110
                by_cases c12 : t157 = true
                · subst c12
                  have H1 : (some true) = some r := by rw [if_pos rfl] at H; exact H
                  clear H
                  have H := H1
                  clear H1
                  obtain rfl := Option.some.inj H
                  have p4 : 0 ≤ (x3_1 : Int) := of_decide_eq_true (by first | (with_reducible assumption) | assumption)
                  have q4 : x3_1 < (a0.size : Int) := of_decide_eq_true (by first | (with_reducible assumption) | assumption)
                  have hx4 := bt_at a0 x3_1
                  replace p4 := eq_true p4
                  replace q4 := eq_true q4
                  have p6 : 0 ≤ (x3_1 : Int) := of_decide_eq_true (by first | (with_reducible assumption) | assumption)
                  have q6 : x3_1 < (a0.size : Int) := of_decide_eq_true (by first | (with_reducible assumption) | assumption)
                  have hx6 := bt_at a0 x3_1
                  replace p6 := eq_true p6
                  replace q6 := eq_true q6
                  have p8 : 0 ≤ (x3_1 : Int) := of_decide_eq_true (by first | (with_reducible assumption) | assumption)
                  have q8 : x3_1 < (a0.size : Int) := of_decide_eq_true (by first | (with_reducible assumption) | assumption)
                  have hx8 := bt_at a0 x3_1
                  replace p8 := eq_true p8
                  replace q8 := eq_true q8
                  have p10 : 0 ≤ (x3_1 : Int) := of_decide_eq_true (by first | (with_reducible assumption) | assumption)
                  have q10 : x3_1 < (a0.size : Int) := of_decide_eq_true (by first | (with_reducible assumption) | assumption)
                  have hx10 := bt_at a0 x3_1
                  replace p10 := eq_true p10
                  replace q10 := eq_true q10
                  go_wp2_with (first | (go_at_call 43; (with_reducible refine (transeptref09_In.calls k1 (⟨#[34, 40, 41, 58, 60, 62, 63, 64, 91, 92, 93, 123, 125]⟩ : ByteArray) (bt a0 x3_1) true _ A11.out).mono ?_); rintro e w' ⟨rfl, ⟨nd, rfl⟩⟩))
                  all_goals (try (exfalso; omega))
                  all_goals go_ret
                  all_goals exact ⟨by first | rfl | (simp; done) | (simp [*]; done) | (simp [Ext.ne_nil_empty]; done), by repeat (first | exact Drawn0.refl _ | apply Drawn0.step)⟩
                · replace c12 := Bool.eq_false_iff.mpr c12
                  subst c12
                  have H1 : (transeptref12_odd.l0 k1 a0 (wrap64 (x3_1 + 1))) = some r := by rw [if_neg (show ¬ (false = true) by decide)] at H; exact H
                  clear H
                  have H := H1
                  clear H1
                  have H' := Aside0.mk H
                  clear H
                  have p4 : 0 ≤ (x3_1 : Int) := of_decide_eq_true (by first | (with_reducible assumption) | assumption)
                  have q4 : x3_1 < (a0.size : Int) := of_decide_eq_true (by first | (with_reducible assumption) | assumption)
                  have hx4 := bt_at a0 x3_1
                  replace p4 := eq_true p4
                  replace q4 := eq_true q4
                  have p6 : 0 ≤ (x3_1 : Int) := of_decide_eq_true (by first | (with_reducible assumption) | assumption)
                  have q6 : x3_1 < (a0.size : Int) := of_decide_eq_true (by first | (with_reducible assumption) | assumption)
                  have hx6 := bt_at a0 x3_1
                  replace p6 := eq_true p6
                  replace q6 := eq_true q6
                  have p8 : 0 ≤ (x3_1 : Int) := of_decide_eq_true (by first | (with_reducible assumption) | assumption)
                  have q8 : x3_1 < (a0.size : Int) := of_decide_eq_true (by first | (with_reducible assumption) | assumption)
                  have hx8 := bt_at a0 x3_1
                  replace p8 := eq_true p8
                  replace q8 := eq_true q8
                  have p10 : 0 ≤ (x3_1 : Int) := of_decide_eq_true (by first | (with_reducible assumption) | assumption)
                  have q10 : x3_1 < (a0.size : Int) := of_decide_eq_true (by first | (with_reducible assumption) | assumption)
                  have hx10 := bt_at a0 x3_1
                  replace p10 := eq_true p10
                  replace q10 := eq_true q10
                  go_wp2_with (first | (go_at_call 43; (with_reducible refine (transeptref09_In.calls k1 (⟨#[34, 40, 41, 58, 60, 62, 63, 64, 91, 92, 93, 123, 125]⟩ : ByteArray) (bt a0 x3_1) false _ A11.out).mono ?_); rintro e w' ⟨rfl, ⟨nd, rfl⟩⟩))
                  all_goals (try (exfalso; omega))
                  go_roundg k1
                  case measure => have := HK1.out; omega
                  case rel => exact ⟨(wrap64 (x3_1 + 1)), (by first | rfl | (simp; done) | (simp [*]; done) | (congr 1; unfold wrap64; omega) | (simp; simp only [decide_eq_false_iff_not, decide_eq_true_eq] at *; congr 2; omega)), H', ⟨by have := HK1.out; omega⟩, by repeat (first | exact Drawn0.refl _ | apply Drawn0.step)⟩
            · rw [if_neg c7] at H
              have c7b0 : ((bt a0 x3_1) == 9) = false := beq_eq_false_iff_ne.mpr c7
              have c7b1 : ((bt a0 x3_1) != 9) = true := bne_iff_ne.mpr c7
              obtain rfl := Option.some.inj H
              have p4 : 0 ≤ (x3_1 : Int) := of_decide_eq_true (by first | (with_reducible assumption) | assumption)
              have q4 : x3_1 < (a0.size : Int) := of_decide_eq_true (by first | (with_reducible assumption) | assumption)
              have hx4 := bt_at a0 x3_1
              replace p4 := eq_true p4
              replace q4 := eq_true q4
              have p6 : 0 ≤ (x3_1 : Int) := of_decide_eq_true (by first | (with_reducible assumption) | assumption)
              have q6 : x3_1 < (a0.size : Int) := of_decide_eq_true (by first | (with_reducible assumption) | assumption)
              have hx6 := bt_at a0 x3_1
              replace p6 := eq_true p6
              replace q6 := eq_true q6
              go_wp2
              all_goals (try (exfalso; omega))
              all_goals go_ret
              all_goals exact ⟨by first | rfl | (simp; done) | (simp [*]; done) | (simp [Ext.ne_nil_empty]; done), by repeat (first | exact Drawn0.refl _ | apply Drawn0.step)⟩
          · rw [if_neg c5] at H
            have c5b0 : decide ((bt a0 x3_1) < 32) = false := decide_eq_false c5
            by_cases c14 : (bt a0 x3_1) = 127
            · rw [if_pos c14] at H
              have c14b0 : ((bt a0 x3_1) == 127) = true := beq_iff_eq.mpr c14
              have c14b1 : ((bt a0 x3_1) != 127) = false := bne_eq_false_iff_eq.mpr c14
              clear c14
              obtain rfl := Option.some.inj H
              have p4 : 0 ≤ (x3_1 : Int) := of_decide_eq_true (by first | (with_reducible assumption) | assumption)
              have q4 : x3_1 < (a0.size : Int) := of_decide_eq_true (by first | (with_reducible assumption) | assumption)
              have hx4 := bt_at a0 x3_1
              replace p4 := eq_true p4
              replace q4 := eq_true q4
              have p13 : 0 ≤ (x3_1 : Int) := of_decide_eq_true (by first | (with_reducible assumption) | assumption)
              have q13 : x3_1 < (a0.size : Int) := of_decide_eq_true (by first | (with_reducible assumption) | assumption)
              have hx13 := bt_at a0 x3_1
              replace p13 := eq_true p13
              replace q13 := eq_true q13
              go_wp2
              all_goals (try (exfalso; omega))
              all_goals go_ret
              all_goals exact ⟨by first | rfl | (simp; done) | (simp [*]; done) | (simp [Ext.ne_nil_empty]; done), by repeat (first | exact Drawn0.refl _ | apply Drawn0.step)⟩
            · rw [if_neg c14] at H
              have c14b0 : ((bt a0 x3_1) == 127) = false := beq_eq_false_iff_ne.mpr c14
              have c14b1 : ((bt a0 x3_1) != 127) = true := bne_iff_ne.mpr c14
              replace H := Option.bind_eq_some_iff.mp H
              obtain ⟨t158, A160, H⟩ := H
              replace H : (if t158 = true then (some true) else (transeptref12_odd.l0 k1 a0 (wrap64 (x3_1 + 1)))) = some r := H
              have A16 := Aside0.mk A160
              clear A160
              by_cases c17 : t158 = true
              · subst c17
                have H1 : (some true) = some r := by rw [if_pos rfl] at H; exact H
                clear H
                have H := H1
                clear H1
                obtain rfl := Option.some.inj H
                have p4 : 0 ≤ (x3_1 : Int) := of_decide_eq_true (by first | (with_reducible assumption) | assumption)
                have q4 : x3_1 < (a0.size : Int) := of_decide_eq_true (by first | (with_reducible assumption) | assumption)
                have hx4 := bt_at a0 x3_1
                replace p4 := eq_true p4
                replace q4 := eq_true q4
                have p13 : 0 ≤ (x3_1 : Int) := of_decide_eq_true (by first | (with_reducible assumption) | assumption)
                have q13 : x3_1 < (a0.size : Int) := of_decide_eq_true (by first | (with_reducible assumption) | assumption)
                have hx13 := bt_at a0 x3_1
                replace p13 := eq_true p13
                replace q13 := eq_true q13
                have p15 : 0 ≤ (x3_1 : Int) := of_decide_eq_true (by first | (with_reducible assumption) | assumption)
                have q15 : x3_1 < (a0.size : Int) := of_decide_eq_true (by first | (with_reducible assumption) | assumption)
                have hx15 := bt_at a0 x3_1
                replace p15 := eq_true p15
                replace q15 := eq_true q15
                go_wp2_with (first | (go_at_call 43; (with_reducible refine (transeptref09_In.calls k1 (⟨#[34, 40, 41, 58, 60, 62, 63, 64, 91, 92, 93, 123, 125]⟩ : ByteArray) (bt a0 x3_1) true _ A16.out).mono ?_); rintro e w' ⟨rfl, ⟨nd, rfl⟩⟩))
                all_goals (try (exfalso; omega))
                all_goals go_ret
                all_goals exact ⟨by first | rfl | (simp; done) | (simp [*]; done) | (simp [Ext.ne_nil_empty]; done), by repeat (first | exact Drawn0.refl _ | apply Drawn0.step)⟩
              · replace c17 := Bool.eq_false_iff.mpr c17
                subst c17
                have H1 : (transeptref12_odd.l0 k1 a0 (wrap64 (x3_1 + 1))) = some r := by rw [if_neg (show ¬ (false = true) by decide)] at H; exact H
                clear H
                have H := H1
                clear H1
                have H' := Aside0.mk H
                clear H
                have p4 : 0 ≤ (x3_1 : Int) := of_decide_eq_true (by first | (with_reducible assumption) | assumption)
                have q4 : x3_1 < (a0.size : Int) := of_decide_eq_true (by first | (with_reducible assumption) | assumption)
                have hx4 := bt_at a0 x3_1
                replace p4 := eq_true p4
                replace q4 := eq_true q4
                have p13 : 0 ≤ (x3_1 : Int) := of_decide_eq_true (by first | (with_reducible assumption) | assumption)
                have q13 : x3_1 < (a0.size : Int) := of_decide_eq_true (by first | (with_reducible assumption) | assumption)
                have hx13 := bt_at a0 x3_1
                replace p13 := eq_true p13
                replace q13 := eq_true q13
                have p15 : 0 ≤ (x3_1 : Int) := of_decide_eq_true (by first | (with_reducible assumption) | assumption)
                have q15 : x3_1 < (a0.size : Int) := of_decide_eq_true (by first | (with_reducible assumption) | assumption)
                have hx15 := bt_at a0 x3_1
                replace p15 := eq_true p15
                replace q15 := eq_true q15
                go_wp2_with (first | (go_at_call 43; (with_reducible refine (transeptref09_In.calls k1 (⟨#[34, 40, 41, 58, 60, 62, 63, 64, 91, 92, 93, 123, 125]⟩ : ByteArray) (bt a0 x3_1) false _ A16.out).mono ?_); rintro e w' ⟨rfl, ⟨nd, rfl⟩⟩))
                all_goals (try (exfalso; omega))
                go_roundg k1
                case measure => have := HK1.out; omega
                case rel => exact ⟨(wrap64 (x3_1 + 1)), (by first | rfl | (simp; done) | (simp [*]; done) | (congr 1; unfold wrap64; omega) | (simp; simp only [decide_eq_false_iff_not, decide_eq_true_eq] at *; congr 2; omega)), H', ⟨by have := HK1.out; omega⟩, by repeat (first | exact Drawn0.refl _ | apply Drawn0.step)⟩
        · rw [if_neg c3] at H
          exact absurd H (by simp)
      · rw [if_neg c2] at H
        have c2b0 : decide (x3_1 < (a0.size : Int)) = false := decide_eq_false c2
        obtain rfl := Option.some.inj H
        go_wp2
        all_goals (try (exfalso; omega))
        all_goals go_ret
        all_goals exact ⟨by first | rfl | (simp; done) | (simp [*]; done) | (simp [Ext.ne_nil_empty]; done), by repeat (first | exact Drawn0.refl _ | apply Drawn0.step)⟩

end Go.Proofs.YtikhboebmmmopaaGreatDoor.Fun
