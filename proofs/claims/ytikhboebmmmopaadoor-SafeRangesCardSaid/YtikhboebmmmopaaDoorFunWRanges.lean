-- Written by xprint.py and prunelaw.py, programs of this work's, by means of the kit's print. Not trusted: Lean checks it.
import Derived.Test.YtikhboebmmmopaaDoorFun
namespace Go.Proofs.YtikhboebmmmopaaDoor.Fun
open Go.RowKit Go.Proofs.YtikhboebmmmopaaDoorW.PrintWords Go.Proofs.YtikhboebmmmopaaDoorW.PrintLast Go.Proofs.YtikhboebmmmopaaDoorW.PrintMore
attribute [local go_sem] max2_int min2_int max_two min_two max_three min_three max_four min_four   -- for this text's walks alone
set_option linter.unusedVariables false
set_option linter.unusedSimpArgs false

/-! ### transeptlaw12_SafeRanges: function 6 -/
def transeptlaw12_SafeRanges.f (k : Nat) (a0 : Int) (a1 : Int) : Option (Bool) := (transeptlaw12_shown.f k).bind fun t203 => ((transeptlaw12_digits.f k (Int.tmod (Go.bits .and .i64 a0 281474976710655) 1000000000)).bind fun t204 => ((transeptlaw12_digits.f k (Int.tmod (Go.bits .and .i64 a1 281474976710655) 1000000000)).bind fun t205 => (if t203 = true then (if 6 + t204.size ≤ 9223372036854775807 then (if ((⟨#[98, 121, 116, 101, 115, 61]⟩ : ByteArray) ++ t204).size + 1 ≤ 9223372036854775807 then (if (((⟨#[98, 121, 116, 101, 115, 61]⟩ : ByteArray) ++ t204) ++ (⟨#[45]⟩ : ByteArray)).size + t205.size ≤ 9223372036854775807 then ((Ext.safe_Header.f (⟨#[114, 97, 110, 103, 101]⟩ : ByteArray) ((((⟨#[98, 121, 116, 101, 115, 61]⟩ : ByteArray) ++ t204) ++ (⟨#[45]⟩ : ByteArray)) ++ t205)).bind fun t206 => (if (t206 == (decide ((Int.tmod (Go.bits .and .i64 a0 281474976710655) 1000000000) ≤ (Int.tmod (Go.bits .and .i64 a1 281474976710655) 1000000000)))) = true then ((Ext.safe_Header.f (⟨#[82, 97, 110, 103, 101]⟩ : ByteArray) (((⟨#[98, 121, 116, 101, 115, 61]⟩ : ByteArray) ++ t204) ++ (⟨#[45]⟩ : ByteArray))).bind fun t207 => (if t207 = true then (if 7 + t205.size ≤ 9223372036854775807 then ((Ext.safe_Header.f (⟨#[114, 97, 110, 103, 101]⟩ : ByteArray) ((⟨#[98, 121, 116, 101, 115, 61, 45]⟩ : ByteArray) ++ t205)).bind fun t208 => (if t208 = true then (some false) else (if t204.size + 1 ≤ 9223372036854775807 then (if (t204 ++ (⟨#[45]⟩ : ByteArray)).size + t205.size ≤ 9223372036854775807 then ((Ext.safe_Header.f (⟨#[114, 97, 110, 103, 101]⟩ : ByteArray) ((t204 ++ (⟨#[45]⟩ : ByteArray)) ++ t205)).bind fun t209 => (some (!t209))) else (none)) else (none)))) else (none)) else (some false))) else (some false))) else (none)) else (none)) else (none)) else (some false))))
theorem transeptlaw12_SafeRanges.mono : ∀ a0 a1 k, LeO (transeptlaw12_SafeRanges.f k a0 a1) (transeptlaw12_SafeRanges.f (k + 1) a0 a1) := by
  intro a0 a1 k
  unfold transeptlaw12_SafeRanges.f
  repeat' first
      | (with_reducible exact transeptlaw12_digits.mono _ _)
      | (with_reducible exact transeptlaw12_shown.mono _)
      | (with_reducible exact LeO.refl _)
      | (with_reducible exact LeO.none _)
      | (with_reducible refine LeO.ite ?_ ?_)
      | (with_reducible refine LeO.bind ?_ (fun _ => ?_))
      | exact transeptlaw12_digits.mono _ _
      | exact transeptlaw12_shown.mono _
      | exact LeO.none _
      | refine LeO.ite ?_ ?_
      | refine LeO.bind ?_ (fun _ => ?_)
set_option maxHeartbeats 8000000 in
set_option maxRecDepth 100000 in
theorem transeptlaw12_SafeRanges.calls (k : Nat) (a0 : Int) (a1 : Int) (_r : Bool) (w : World) (hT : Ext.Tabs w) (h : transeptlaw12_SafeRanges.f k a0 a1 = some true) :
    Calls Tryd.prog 6 #[.int .i64 a0, .int .i64 a1] w fun e w' => e = .returned (.bool true) ∧ Below w.heap.size w w' := by
  have HB := Aside0.mk (Below.refl w.heap.size w)
  have HT := Aside0.mk hT
  clear hT
  have H : ((transeptlaw12_shown.f k).bind fun t203 => ((transeptlaw12_digits.f k (Int.tmod (Go.bits .and .i64 a0 281474976710655) 1000000000)).bind fun t204 => ((transeptlaw12_digits.f k (Int.tmod (Go.bits .and .i64 a1 281474976710655) 1000000000)).bind fun t205 => (if t203 = true then (if 6 + t204.size ≤ 9223372036854775807 then (if ((⟨#[98, 121, 116, 101, 115, 61]⟩ : ByteArray) ++ t204).size + 1 ≤ 9223372036854775807 then (if (((⟨#[98, 121, 116, 101, 115, 61]⟩ : ByteArray) ++ t204) ++ (⟨#[45]⟩ : ByteArray)).size + t205.size ≤ 9223372036854775807 then ((Ext.safe_Header.f (⟨#[114, 97, 110, 103, 101]⟩ : ByteArray) ((((⟨#[98, 121, 116, 101, 115, 61]⟩ : ByteArray) ++ t204) ++ (⟨#[45]⟩ : ByteArray)) ++ t205)).bind fun t206 => (if (t206 == (decide ((Int.tmod (Go.bits .and .i64 a0 281474976710655) 1000000000) ≤ (Int.tmod (Go.bits .and .i64 a1 281474976710655) 1000000000)))) = true then ((Ext.safe_Header.f (⟨#[82, 97, 110, 103, 101]⟩ : ByteArray) (((⟨#[98, 121, 116, 101, 115, 61]⟩ : ByteArray) ++ t204) ++ (⟨#[45]⟩ : ByteArray))).bind fun t207 => (if t207 = true then (if 7 + t205.size ≤ 9223372036854775807 then ((Ext.safe_Header.f (⟨#[114, 97, 110, 103, 101]⟩ : ByteArray) ((⟨#[98, 121, 116, 101, 115, 61, 45]⟩ : ByteArray) ++ t205)).bind fun t208 => (if t208 = true then (some false) else (if t204.size + 1 ≤ 9223372036854775807 then (if (t204 ++ (⟨#[45]⟩ : ByteArray)).size + t205.size ≤ 9223372036854775807 then ((Ext.safe_Header.f (⟨#[114, 97, 110, 103, 101]⟩ : ByteArray) ((t204 ++ (⟨#[45]⟩ : ByteArray)) ++ t205)).bind fun t209 => (some (!t209))) else (none)) else (none)))) else (none)) else (some false))) else (some false))) else (none)) else (none)) else (none)) else (some false))))) = some true := h
  clear h
  replace H := Option.bind_eq_some_iff.mp H
  obtain ⟨t203, A30, H⟩ := H
  replace H : ((transeptlaw12_digits.f k (Int.tmod (Go.bits .and .i64 a0 281474976710655) 1000000000)).bind fun t204 => ((transeptlaw12_digits.f k (Int.tmod (Go.bits .and .i64 a1 281474976710655) 1000000000)).bind fun t205 => (if t203 = true then (if 6 + t204.size ≤ 9223372036854775807 then (if ((⟨#[98, 121, 116, 101, 115, 61]⟩ : ByteArray) ++ t204).size + 1 ≤ 9223372036854775807 then (if (((⟨#[98, 121, 116, 101, 115, 61]⟩ : ByteArray) ++ t204) ++ (⟨#[45]⟩ : ByteArray)).size + t205.size ≤ 9223372036854775807 then ((Ext.safe_Header.f (⟨#[114, 97, 110, 103, 101]⟩ : ByteArray) ((((⟨#[98, 121, 116, 101, 115, 61]⟩ : ByteArray) ++ t204) ++ (⟨#[45]⟩ : ByteArray)) ++ t205)).bind fun t206 => (if (t206 == (decide ((Int.tmod (Go.bits .and .i64 a0 281474976710655) 1000000000) ≤ (Int.tmod (Go.bits .and .i64 a1 281474976710655) 1000000000)))) = true then ((Ext.safe_Header.f (⟨#[82, 97, 110, 103, 101]⟩ : ByteArray) (((⟨#[98, 121, 116, 101, 115, 61]⟩ : ByteArray) ++ t204) ++ (⟨#[45]⟩ : ByteArray))).bind fun t207 => (if t207 = true then (if 7 + t205.size ≤ 9223372036854775807 then ((Ext.safe_Header.f (⟨#[114, 97, 110, 103, 101]⟩ : ByteArray) ((⟨#[98, 121, 116, 101, 115, 61, 45]⟩ : ByteArray) ++ t205)).bind fun t208 => (if t208 = true then (some false) else (if t204.size + 1 ≤ 9223372036854775807 then (if (t204 ++ (⟨#[45]⟩ : ByteArray)).size + t205.size ≤ 9223372036854775807 then ((Ext.safe_Header.f (⟨#[114, 97, 110, 103, 101]⟩ : ByteArray) ((t204 ++ (⟨#[45]⟩ : ByteArray)) ++ t205)).bind fun t209 => (some (!t209))) else (none)) else (none)))) else (none)) else (some false))) else (some false))) else (none)) else (none)) else (none)) else (some false)))) = some true := H
  have A3 := Aside0.mk A30
  clear A30
  replace H := Option.bind_eq_some_iff.mp H
  obtain ⟨t204, A40, H⟩ := H
  replace H : ((transeptlaw12_digits.f k (Int.tmod (Go.bits .and .i64 a1 281474976710655) 1000000000)).bind fun t205 => (if t203 = true then (if 6 + t204.size ≤ 9223372036854775807 then (if ((⟨#[98, 121, 116, 101, 115, 61]⟩ : ByteArray) ++ t204).size + 1 ≤ 9223372036854775807 then (if (((⟨#[98, 121, 116, 101, 115, 61]⟩ : ByteArray) ++ t204) ++ (⟨#[45]⟩ : ByteArray)).size + t205.size ≤ 9223372036854775807 then ((Ext.safe_Header.f (⟨#[114, 97, 110, 103, 101]⟩ : ByteArray) ((((⟨#[98, 121, 116, 101, 115, 61]⟩ : ByteArray) ++ t204) ++ (⟨#[45]⟩ : ByteArray)) ++ t205)).bind fun t206 => (if (t206 == (decide ((Int.tmod (Go.bits .and .i64 a0 281474976710655) 1000000000) ≤ (Int.tmod (Go.bits .and .i64 a1 281474976710655) 1000000000)))) = true then ((Ext.safe_Header.f (⟨#[82, 97, 110, 103, 101]⟩ : ByteArray) (((⟨#[98, 121, 116, 101, 115, 61]⟩ : ByteArray) ++ t204) ++ (⟨#[45]⟩ : ByteArray))).bind fun t207 => (if t207 = true then (if 7 + t205.size ≤ 9223372036854775807 then ((Ext.safe_Header.f (⟨#[114, 97, 110, 103, 101]⟩ : ByteArray) ((⟨#[98, 121, 116, 101, 115, 61, 45]⟩ : ByteArray) ++ t205)).bind fun t208 => (if t208 = true then (some false) else (if t204.size + 1 ≤ 9223372036854775807 then (if (t204 ++ (⟨#[45]⟩ : ByteArray)).size + t205.size ≤ 9223372036854775807 then ((Ext.safe_Header.f (⟨#[114, 97, 110, 103, 101]⟩ : ByteArray) ((t204 ++ (⟨#[45]⟩ : ByteArray)) ++ t205)).bind fun t209 => (some (!t209))) else (none)) else (none)))) else (none)) else (some false))) else (some false))) else (none)) else (none)) else (none)) else (some false))) = some true := H
  have A4 := Aside0.mk A40
  clear A40
  replace H := Option.bind_eq_some_iff.mp H
  obtain ⟨t205, A50, H⟩ := H
  replace H : (if t203 = true then (if 6 + t204.size ≤ 9223372036854775807 then (if ((⟨#[98, 121, 116, 101, 115, 61]⟩ : ByteArray) ++ t204).size + 1 ≤ 9223372036854775807 then (if (((⟨#[98, 121, 116, 101, 115, 61]⟩ : ByteArray) ++ t204) ++ (⟨#[45]⟩ : ByteArray)).size + t205.size ≤ 9223372036854775807 then ((Ext.safe_Header.f (⟨#[114, 97, 110, 103, 101]⟩ : ByteArray) ((((⟨#[98, 121, 116, 101, 115, 61]⟩ : ByteArray) ++ t204) ++ (⟨#[45]⟩ : ByteArray)) ++ t205)).bind fun t206 => (if (t206 == (decide ((Int.tmod (Go.bits .and .i64 a0 281474976710655) 1000000000) ≤ (Int.tmod (Go.bits .and .i64 a1 281474976710655) 1000000000)))) = true then ((Ext.safe_Header.f (⟨#[82, 97, 110, 103, 101]⟩ : ByteArray) (((⟨#[98, 121, 116, 101, 115, 61]⟩ : ByteArray) ++ t204) ++ (⟨#[45]⟩ : ByteArray))).bind fun t207 => (if t207 = true then (if 7 + t205.size ≤ 9223372036854775807 then ((Ext.safe_Header.f (⟨#[114, 97, 110, 103, 101]⟩ : ByteArray) ((⟨#[98, 121, 116, 101, 115, 61, 45]⟩ : ByteArray) ++ t205)).bind fun t208 => (if t208 = true then (some false) else (if t204.size + 1 ≤ 9223372036854775807 then (if (t204 ++ (⟨#[45]⟩ : ByteArray)).size + t205.size ≤ 9223372036854775807 then ((Ext.safe_Header.f (⟨#[114, 97, 110, 103, 101]⟩ : ByteArray) ((t204 ++ (⟨#[45]⟩ : ByteArray)) ++ t205)).bind fun t209 => (some (!t209))) else (none)) else (none)))) else (none)) else (some false))) else (some false))) else (none)) else (none)) else (none)) else (some false)) = some true := H
  have A5 := Aside0.mk A50
  clear A50
  by_cases c6 : t203 = true
  · subst c6
    have H1 : (if 6 + t204.size ≤ 9223372036854775807 then (if ((⟨#[98, 121, 116, 101, 115, 61]⟩ : ByteArray) ++ t204).size + 1 ≤ 9223372036854775807 then (if (((⟨#[98, 121, 116, 101, 115, 61]⟩ : ByteArray) ++ t204) ++ (⟨#[45]⟩ : ByteArray)).size + t205.size ≤ 9223372036854775807 then ((Ext.safe_Header.f (⟨#[114, 97, 110, 103, 101]⟩ : ByteArray) ((((⟨#[98, 121, 116, 101, 115, 61]⟩ : ByteArray) ++ t204) ++ (⟨#[45]⟩ : ByteArray)) ++ t205)).bind fun t206 => (if (t206 == (decide ((Int.tmod (Go.bits .and .i64 a0 281474976710655) 1000000000) ≤ (Int.tmod (Go.bits .and .i64 a1 281474976710655) 1000000000)))) = true then ((Ext.safe_Header.f (⟨#[82, 97, 110, 103, 101]⟩ : ByteArray) (((⟨#[98, 121, 116, 101, 115, 61]⟩ : ByteArray) ++ t204) ++ (⟨#[45]⟩ : ByteArray))).bind fun t207 => (if t207 = true then (if 7 + t205.size ≤ 9223372036854775807 then ((Ext.safe_Header.f (⟨#[114, 97, 110, 103, 101]⟩ : ByteArray) ((⟨#[98, 121, 116, 101, 115, 61, 45]⟩ : ByteArray) ++ t205)).bind fun t208 => (if t208 = true then (some false) else (if t204.size + 1 ≤ 9223372036854775807 then (if (t204 ++ (⟨#[45]⟩ : ByteArray)).size + t205.size ≤ 9223372036854775807 then ((Ext.safe_Header.f (⟨#[114, 97, 110, 103, 101]⟩ : ByteArray) ((t204 ++ (⟨#[45]⟩ : ByteArray)) ++ t205)).bind fun t209 => (some (!t209))) else (none)) else (none)))) else (none)) else (some false))) else (some false))) else (none)) else (none)) else (none)) = some true := by rw [if_pos rfl] at H; exact H
    clear H
    have H := H1
    clear H1
    by_cases c7 : 6 + t204.size ≤ 9223372036854775807
    · rw [if_pos c7] at H
      have c7b0 := eq_true c7
      have c7b1 : decide (6 + t204.size ≤ 9223372036854775807) = true := decide_eq_true c7
      try have c7b2 : (9223372036854775807 < 6 + t204.size) = False := eq_false (Nat.not_lt.2 c7)
      by_cases c8 : ((⟨#[98, 121, 116, 101, 115, 61]⟩ : ByteArray) ++ t204).size + 1 ≤ 9223372036854775807
      · rw [if_pos c8] at H
        (try (have c8x := c8; simp only [ByteArray.size_append, show (⟨#[98, 121, 116, 101, 115, 61]⟩ : ByteArray).size = 6 from rfl] at c8x))
        have c8b0 := eq_true c8
        have c8b1 : decide (((⟨#[98, 121, 116, 101, 115, 61]⟩ : ByteArray) ++ t204).size + 1 ≤ 9223372036854775807) = true := decide_eq_true c8
        try have c8b2 : (9223372036854775807 < ((⟨#[98, 121, 116, 101, 115, 61]⟩ : ByteArray) ++ t204).size + 1) = False := eq_false (Nat.not_lt.2 c8)
        by_cases c9 : (((⟨#[98, 121, 116, 101, 115, 61]⟩ : ByteArray) ++ t204) ++ (⟨#[45]⟩ : ByteArray)).size + t205.size ≤ 9223372036854775807
        · rw [if_pos c9] at H
          (try (have c9x := c9; simp only [ByteArray.size_append, show (⟨#[45]⟩ : ByteArray).size = 1 from rfl, show (⟨#[98, 121, 116, 101, 115, 61]⟩ : ByteArray).size = 6 from rfl] at c9x))
          have c9b0 := eq_true c9
          have c9b1 : decide ((((⟨#[98, 121, 116, 101, 115, 61]⟩ : ByteArray) ++ t204) ++ (⟨#[45]⟩ : ByteArray)).size + t205.size ≤ 9223372036854775807) = true := decide_eq_true c9
          try have c9b2 : (9223372036854775807 < (((⟨#[98, 121, 116, 101, 115, 61]⟩ : ByteArray) ++ t204) ++ (⟨#[45]⟩ : ByteArray)).size + t205.size) = False := eq_false (Nat.not_lt.2 c9)
          replace H := Option.bind_eq_some_iff.mp H
          obtain ⟨t206, A100, H⟩ := H
          replace H : (if (t206 == (decide ((Int.tmod (Go.bits .and .i64 a0 281474976710655) 1000000000) ≤ (Int.tmod (Go.bits .and .i64 a1 281474976710655) 1000000000)))) = true then ((Ext.safe_Header.f (⟨#[82, 97, 110, 103, 101]⟩ : ByteArray) (((⟨#[98, 121, 116, 101, 115, 61]⟩ : ByteArray) ++ t204) ++ (⟨#[45]⟩ : ByteArray))).bind fun t207 => (if t207 = true then (if 7 + t205.size ≤ 9223372036854775807 then ((Ext.safe_Header.f (⟨#[114, 97, 110, 103, 101]⟩ : ByteArray) ((⟨#[98, 121, 116, 101, 115, 61, 45]⟩ : ByteArray) ++ t205)).bind fun t208 => (if t208 = true then (some false) else (if t204.size + 1 ≤ 9223372036854775807 then (if (t204 ++ (⟨#[45]⟩ : ByteArray)).size + t205.size ≤ 9223372036854775807 then ((Ext.safe_Header.f (⟨#[114, 97, 110, 103, 101]⟩ : ByteArray) ((t204 ++ (⟨#[45]⟩ : ByteArray)) ++ t205)).bind fun t209 => (some (!t209))) else (none)) else (none)))) else (none)) else (some false))) else (some false)) = some true := H
          have A10 := Aside0.mk A100
          clear A100
          by_cases c11 : (t206 == (decide ((Int.tmod (Go.bits .and .i64 a0 281474976710655) 1000000000) ≤ (Int.tmod (Go.bits .and .i64 a1 281474976710655) 1000000000)))) = true
          · rw [if_pos c11] at H
            have c11b0 : (t206 == (decide ((Int.tmod (Go.bits .and .i64 a0 281474976710655) 1000000000) ≤ (Int.tmod (Go.bits .and .i64 a1 281474976710655) 1000000000)))) = true := c11
            (try (have c11b1 : decide (t206 = (decide ((Int.tmod (Go.bits .and .i64 a0 281474976710655) 1000000000) ≤ (Int.tmod (Go.bits .and .i64 a1 281474976710655) 1000000000)))) = true := by simpa using c11))
            (try (have c11b2 : (t206 == (decide ((Int.tmod (Go.bits .and .i64 a0 281474976710655) 1000000000) ≤ (Int.tmod (Go.bits .and .i64 a1 281474976710655) 1000000000)))) = true := by simpa using c11))
            replace H := Option.bind_eq_some_iff.mp H
            obtain ⟨t207, A120, H⟩ := H
            replace H : (if t207 = true then (if 7 + t205.size ≤ 9223372036854775807 then ((Ext.safe_Header.f (⟨#[114, 97, 110, 103, 101]⟩ : ByteArray) ((⟨#[98, 121, 116, 101, 115, 61, 45]⟩ : ByteArray) ++ t205)).bind fun t208 => (if t208 = true then (some false) else (if t204.size + 1 ≤ 9223372036854775807 then (if (t204 ++ (⟨#[45]⟩ : ByteArray)).size + t205.size ≤ 9223372036854775807 then ((Ext.safe_Header.f (⟨#[114, 97, 110, 103, 101]⟩ : ByteArray) ((t204 ++ (⟨#[45]⟩ : ByteArray)) ++ t205)).bind fun t209 => (some (!t209))) else (none)) else (none)))) else (none)) else (some false)) = some true := H
            have A12 := Aside0.mk A120
            clear A120
            by_cases c13 : t207 = true
            · subst c13
              have H1 : (if 7 + t205.size ≤ 9223372036854775807 then ((Ext.safe_Header.f (⟨#[114, 97, 110, 103, 101]⟩ : ByteArray) ((⟨#[98, 121, 116, 101, 115, 61, 45]⟩ : ByteArray) ++ t205)).bind fun t208 => (if t208 = true then (some false) else (if t204.size + 1 ≤ 9223372036854775807 then (if (t204 ++ (⟨#[45]⟩ : ByteArray)).size + t205.size ≤ 9223372036854775807 then ((Ext.safe_Header.f (⟨#[114, 97, 110, 103, 101]⟩ : ByteArray) ((t204 ++ (⟨#[45]⟩ : ByteArray)) ++ t205)).bind fun t209 => (some (!t209))) else (none)) else (none)))) else (none)) = some true := by rw [if_pos rfl] at H; exact H
              clear H
              have H := H1
              clear H1
              by_cases c14 : 7 + t205.size ≤ 9223372036854775807
              · rw [if_pos c14] at H
                have c14b0 := eq_true c14
                have c14b1 : decide (7 + t205.size ≤ 9223372036854775807) = true := decide_eq_true c14
                try have c14b2 : (9223372036854775807 < 7 + t205.size) = False := eq_false (Nat.not_lt.2 c14)
                replace H := Option.bind_eq_some_iff.mp H
                obtain ⟨t208, A150, H⟩ := H
                replace H : (if t208 = true then (some false) else (if t204.size + 1 ≤ 9223372036854775807 then (if (t204 ++ (⟨#[45]⟩ : ByteArray)).size + t205.size ≤ 9223372036854775807 then ((Ext.safe_Header.f (⟨#[114, 97, 110, 103, 101]⟩ : ByteArray) ((t204 ++ (⟨#[45]⟩ : ByteArray)) ++ t205)).bind fun t209 => (some (!t209))) else (none)) else (none))) = some true := H
                have A15 := Aside0.mk A150
                clear A150
                by_cases c16 : t208 = true
                · subst c16
                  have H1 : (some false) = some true := by rw [if_pos rfl] at H; exact H
                  clear H
                  have H := H1
                  clear H1
                  exact absurd (Option.some.inj H) (by decide)
                · replace c16 := Bool.eq_false_iff.mpr c16
                  subst c16
                  have H1 : (if t204.size + 1 ≤ 9223372036854775807 then (if (t204 ++ (⟨#[45]⟩ : ByteArray)).size + t205.size ≤ 9223372036854775807 then ((Ext.safe_Header.f (⟨#[114, 97, 110, 103, 101]⟩ : ByteArray) ((t204 ++ (⟨#[45]⟩ : ByteArray)) ++ t205)).bind fun t209 => (some (!t209))) else (none)) else (none)) = some true := by rw [if_neg (show ¬ (false = true) by decide)] at H; exact H
                  clear H
                  have H := H1
                  clear H1
                  by_cases c23 : t204.size + 1 ≤ 9223372036854775807
                  · rw [if_pos c23] at H
                    have c23b0 := eq_true c23
                    have c23b1 : decide (t204.size + 1 ≤ 9223372036854775807) = true := decide_eq_true c23
                    try have c23b2 : (9223372036854775807 < t204.size + 1) = False := eq_false (Nat.not_lt.2 c23)
                    by_cases c24 : (t204 ++ (⟨#[45]⟩ : ByteArray)).size + t205.size ≤ 9223372036854775807
                    · rw [if_pos c24] at H
                      (try (have c24x := c24; simp only [ByteArray.size_append, show (⟨#[45]⟩ : ByteArray).size = 1 from rfl] at c24x))
                      have c24b0 := eq_true c24
                      have c24b1 : decide ((t204 ++ (⟨#[45]⟩ : ByteArray)).size + t205.size ≤ 9223372036854775807) = true := decide_eq_true c24
                      try have c24b2 : (9223372036854775807 < (t204 ++ (⟨#[45]⟩ : ByteArray)).size + t205.size) = False := eq_false (Nat.not_lt.2 c24)
                      replace H := Option.bind_eq_some_iff.mp H
                      obtain ⟨t209, A250, H⟩ := H
                      replace H : (some (!t209)) = some true := H
                      have A25 := Aside0.mk A250
                      clear A250
                      first | (revert H; simp only [Option.some.injEq, Bool.false_eq_true, false_implies]; done) | (have hv_ := Option.some.inj H)
                      all_goals go_enter Tryd.func6, Tryd.ntmps6
                      all_goals go_wp2_with (first | ((with_reducible refine gate_callee (f := 9) rfl ?_); refine goesL_ (some 8) rfl rfl Tryd.func9 (by kernel_rfl) rfl #[] rfl (by (try simp only [List.map_toArray, List.map_cons, List.map_nil]); first | done | rfl | (simp only [List.length_drop, List.length_take]; rfl)) ?_; (with_reducible refine (transeptlaw12_shown.calls k  true _ ?side1 A3.out).mono ?_); (case side1 => exact Ext.tabs_at HT.out (by repeat (first | (with_reducible first | exact HB.out | apply below_alloc | apply pw_below_drewN | apply below_drew1) | exact HB.out))); rintro e w26 ⟨rfl, hb⟩; refine ⟨_, rfl, ?_⟩; have n0_ := Aside0.mk (below_step (by repeat (first | (with_reducible first | exact HB.out | apply below_alloc | apply pw_below_drewN | apply below_drew1) | exact HB.out)) hb); clear HB; have HB := n0_; clear n0_; (try clear hb); (try clear hb2); (try clear hk); (try clear hi)) | ((with_reducible refine gate_callee (f := 18) rfl ?_); refine goesL_ (some 16) rfl rfl Tryd.func18 (by kernel_rfl) rfl #[.int .i64 (Int.tmod (Go.bits .and .i64 a0 281474976710655) 1000000000)] rfl (by (try simp only [List.map_toArray, List.map_cons, List.map_nil]); first | done | rfl | (simp only [List.length_drop, List.length_take]; rfl)) ?_; (with_reducible refine (transeptlaw12_digits.calls k (Int.tmod (Go.bits .and .i64 a0 281474976710655) 1000000000) t204 _ A4.out).mono ?_); rintro e w27 ⟨rfl, hb⟩; refine ⟨_, rfl, ?_⟩; have n0_ := Aside0.mk (below_step (by repeat (first | (with_reducible first | exact HB.out | apply below_alloc | apply pw_below_drewN | apply below_drew1) | exact HB.out)) hb); clear HB; have HB := n0_; clear n0_; (try clear hb); (try clear hb2); (try clear hk); (try clear hi)) | ((with_reducible refine gate_callee (f := 18) rfl ?_); refine goesL_ (some 18) rfl rfl Tryd.func18 (by kernel_rfl) rfl #[.int .i64 (Int.tmod (Go.bits .and .i64 a1 281474976710655) 1000000000)] rfl (by (try simp only [List.map_toArray, List.map_cons, List.map_nil]); first | done | rfl | (simp only [List.length_drop, List.length_take]; rfl)) ?_; (with_reducible refine (transeptlaw12_digits.calls k (Int.tmod (Go.bits .and .i64 a1 281474976710655) 1000000000) t205 _ A5.out).mono ?_); rintro e w28 ⟨rfl, hb⟩; refine ⟨_, rfl, ?_⟩; have n0_ := Aside0.mk (below_step (by repeat (first | (with_reducible first | exact HB.out | apply below_alloc | apply pw_below_drewN | apply below_drew1) | exact HB.out)) hb); clear HB; have HB := n0_; clear n0_; (try clear hb); (try clear hb2); (try clear hk); (try clear hi)) | (go_at_call 12; (with_reducible refine (Ext.safe_Header.calls (⟨#[114, 97, 110, 103, 101]⟩ : ByteArray) ((((⟨#[98, 121, 116, 101, 115, 61]⟩ : ByteArray) ++ t204) ++ (⟨#[45]⟩ : ByteArray)) ++ t205) t206 _ ?side1 A10.out).mono ?_); (case side1 => exact Ext.tabs_at HT.out (by repeat (first | (with_reducible first | exact HB.out | apply below_alloc | apply pw_below_drewN | apply below_drew1) | exact HB.out))); rintro e w29 ⟨rfl, hb⟩; have n0_ := Aside0.mk (below_step (by repeat (first | (with_reducible first | exact HB.out | apply below_alloc | apply pw_below_drewN | apply below_drew1) | exact HB.out)) hb); clear HB; have HB := n0_; clear n0_; (try clear hb); (try clear hb2); (try clear hk); (try clear hi)) | (go_at_call 12; (with_reducible refine (Ext.safe_Header.calls (⟨#[82, 97, 110, 103, 101]⟩ : ByteArray) (((⟨#[98, 121, 116, 101, 115, 61]⟩ : ByteArray) ++ t204) ++ (⟨#[45]⟩ : ByteArray)) true _ ?side1 A12.out).mono ?_); (case side1 => exact Ext.tabs_at HT.out (by repeat (first | (with_reducible first | exact HB.out | apply below_alloc | apply pw_below_drewN | apply below_drew1) | exact HB.out))); rintro e w30 ⟨rfl, hb⟩; have n0_ := Aside0.mk (below_step (by repeat (first | (with_reducible first | exact HB.out | apply below_alloc | apply pw_below_drewN | apply below_drew1) | exact HB.out)) hb); clear HB; have HB := n0_; clear n0_; (try clear hb); (try clear hb2); (try clear hk); (try clear hi)) | (go_at_call 12; (with_reducible refine (Ext.safe_Header.calls (⟨#[114, 97, 110, 103, 101]⟩ : ByteArray) ((⟨#[98, 121, 116, 101, 115, 61, 45]⟩ : ByteArray) ++ t205) false _ ?side1 A15.out).mono ?_); (case side1 => exact Ext.tabs_at HT.out (by repeat (first | (with_reducible first | exact HB.out | apply below_alloc | apply pw_below_drewN | apply below_drew1) | exact HB.out))); rintro e w31 ⟨rfl, hb⟩; have n0_ := Aside0.mk (below_step (by repeat (first | (with_reducible first | exact HB.out | apply below_alloc | apply pw_below_drewN | apply below_drew1) | exact HB.out)) hb); clear HB; have HB := n0_; clear n0_; (try clear hb); (try clear hb2); (try clear hk); (try clear hi)) | (go_at_call 12; (with_reducible refine (Ext.safe_Header.calls (⟨#[114, 97, 110, 103, 101]⟩ : ByteArray) ((t204 ++ (⟨#[45]⟩ : ByteArray)) ++ t205) t209 _ ?side1 A25.out).mono ?_); (case side1 => exact Ext.tabs_at HT.out (by repeat (first | (with_reducible first | exact HB.out | apply below_alloc | apply pw_below_drewN | apply below_drew1) | exact HB.out))); rintro e w32 ⟨rfl, hb⟩; have n0_ := Aside0.mk (below_step (by repeat (first | (with_reducible first | exact HB.out | apply below_alloc | apply pw_below_drewN | apply below_drew1) | exact HB.out)) hb); clear HB; have HB := n0_; clear n0_; (try clear hb); (try clear hb2); (try clear hk); (try clear hi)))
                      all_goals (try (exfalso; omega))
                      all_goals go_ret
                      all_goals exact ⟨by first | rfl | (simp [errW_none, errW_some] <;> rfl) | (simp [*, errW_none, errW_some] <;> rfl) | (simp [Ext.ne_nil_empty]; done) | (exfalso; simp_all; done), by repeat (first | (with_reducible first | exact HB.out | apply below_alloc | apply pw_below_drewN | apply below_drew1) | exact HB.out)⟩
                    · rw [if_neg c24] at H
                      (try (have c24x := c24; simp only [ByteArray.size_append, show (⟨#[45]⟩ : ByteArray).size = 1 from rfl] at c24x))
                      exact absurd H (by simp)
                  · rw [if_neg c23] at H
                    exact absurd H (by simp)
              · rw [if_neg c14] at H
                exact absurd H (by simp)
            · replace c13 := Bool.eq_false_iff.mpr c13
              subst c13
              have H1 : (some false) = some true := by rw [if_neg (show ¬ (false = true) by decide)] at H; exact H
              clear H
              have H := H1
              clear H1
              exact absurd (Option.some.inj H) (by decide)
          · rw [if_neg c11] at H
            have c11b0 : (t206 == (decide ((Int.tmod (Go.bits .and .i64 a0 281474976710655) 1000000000) ≤ (Int.tmod (Go.bits .and .i64 a1 281474976710655) 1000000000)))) = false := by simpa using c11
            (try (have c11b1 : decide (t206 = (decide ((Int.tmod (Go.bits .and .i64 a0 281474976710655) 1000000000) ≤ (Int.tmod (Go.bits .and .i64 a1 281474976710655) 1000000000)))) = false := by simpa using c11))
            (try (have c11b2 : (t206 == (decide ((Int.tmod (Go.bits .and .i64 a0 281474976710655) 1000000000) ≤ (Int.tmod (Go.bits .and .i64 a1 281474976710655) 1000000000)))) = false := by simpa using c11))
            (try (have c11b3 : ¬ (t206 = (decide ((Int.tmod (Go.bits .and .i64 a0 281474976710655) 1000000000) ≤ (Int.tmod (Go.bits .and .i64 a1 281474976710655) 1000000000)))) := by simpa using c11))
            exact absurd (Option.some.inj H) (by decide)
        · rw [if_neg c9] at H
          (try (have c9x := c9; simp only [ByteArray.size_append, show (⟨#[45]⟩ : ByteArray).size = 1 from rfl, show (⟨#[98, 121, 116, 101, 115, 61]⟩ : ByteArray).size = 6 from rfl] at c9x))
          exact absurd H (by simp)
      · rw [if_neg c8] at H
        (try (have c8x := c8; simp only [ByteArray.size_append, show (⟨#[98, 121, 116, 101, 115, 61]⟩ : ByteArray).size = 6 from rfl] at c8x))
        exact absurd H (by simp)
    · rw [if_neg c7] at H
      exact absurd H (by simp)
  · replace c6 := Bool.eq_false_iff.mpr c6
    subst c6
    have H1 : (some false) = some true := by rw [if_neg (show ¬ (false = true) by decide)] at H; exact H
    clear H
    have H := H1
    clear H1
    exact absurd (Option.some.inj H) (by decide)
end Go.Proofs.YtikhboebmmmopaaDoor.Fun
