/-
  CONTRACTS, proved by hand: safe.odd and safe.unlike as tests of a byte; what safe.without hands back for each. Conditions: those in each statement.
-/
import Derived.Test.YtikhboebmmmopaaDoorExtSafe
import Derived.Test.YtikhboebmmmopaaDoorExtC
import Derived.Test.YtikhboebmmmopaaDoorPlainH
import Derived.Test.YtikhboebmmmopaaDoorShelf
namespace Go.Proofs.YtikhboebmmmopaaDoor.Ext
open Go.RowKit Go.Proofs.YtikhboebmmmopaaDoorW.PrintWords

theorem byte_of {x : Int} (h0 : 0 ≤ x) (h1 : x < 256) : ∃ c : UInt8, x = (c.toNat : Int) ∧ x.toNat.toUInt8 = c := by
  refine ⟨x.toNat.toUInt8, ?_, rfl⟩
  have : (x.toNat.toUInt8).toNat = x.toNat % 256 := by simp
  rw [this]
  omega
theorem odd_as (c : UInt8) : Plain.oddB c = ((decide ((c.toNat : Int) < 32) && !decide ((c.toNat : Int) = 9)) || (decide ((c.toNat : Int) = 127) || decide (0 ≤ Lib.indexByte [34, 40, 41, 58, 60, 62, 63, 64, 91, 92, 93, 123, 125] c))) := by
  have := Plain.all_bytes (p := fun c => Plain.oddB c == ((decide ((c.toNat : Int) < 32) && !decide ((c.toNat : Int) = 9)) || (decide ((c.toNat : Int) = 127) || decide (0 ≤ Lib.indexByte [34, 40, 41, 58, 60, 62, 63, 64, 91, 92, 93, 123, 125] c)))) (by decide +kernel) c
  simpa using this
set_option maxHeartbeats 1000000 in
theorem odd_any (c : UInt8) (w : World) :
    Calls Tryd.prog 30 #[.int .u8 (c.toNat : Int)] w fun e w' => e = .returned (.bool (Plain.oddB c)) ∧ Below w.heap.size w w' := by
  have HO := Aside0.mk (odd_as c)
  have h255 : (c.toNat : Int) < 256 := by have := UInt8.toNat_lt c; omega
  have hconv : ((c.toNat : Int)).toNat.toUInt8 = c := by simp
  have HC := Aside0.mk hconv
  clear hconv
  by_cases a1 : (c.toNat : Int) < 32
  · by_cases a2 : (c.toNat : Int) = 9
    · have HV := Aside0.mk (show c = 9 from by
        have : c.toNat = 9 := by omega
        exact UInt8.toNat_inj.1 this)
      rw [HO.out, HV.out]
      clear HO HC a1 a2 h255
      go_enter Tryd.func30, Tryd.ntmps30
      go_wp2_with fail
      refine (Tryd.strings_IndexByte _ _ _).mono ?_
      rintro e W1 ⟨rfl, hw⟩
      subst hw
      go_wp2
      go_ret
      exact ⟨ret_bool (by decide), Below.refl _ _⟩
    · rw [HO.out, decide_eq_true a1, decide_eq_false a2]
      clear HO HC
      go_enter Tryd.func30, Tryd.ntmps30
      go_wp2
      go_ret
      exact ⟨rfl, Below.refl _ _⟩
  · have a2 : ¬ (c.toNat : Int) = 9 := by omega
    by_cases a3 : (c.toNat : Int) = 127
    · rw [HO.out, decide_eq_true a3]
      simp only [Bool.true_or, Bool.or_true]
      clear HO HC
      go_enter Tryd.func30, Tryd.ntmps30
      go_wp2
      go_ret
      exact ⟨rfl, Below.refl _ _⟩
    · rw [HO.out, decide_eq_false a3, decide_eq_false a1]
      simp only [Bool.false_and, Bool.false_or]
      clear HO
      go_enter Tryd.func30, Tryd.ntmps30
      go_wp2_with fail
      refine (Tryd.strings_IndexByte _ _ _).mono ?_
      rintro e W1 ⟨rfl, hw⟩
      subst hw
      rw [HC.out]
      go_wp2
      go_ret
      exact ⟨ret_bool (by simp [a3]), Below.refl _ _⟩
theorem unlike_as (c : UInt8) : (!Plain.langB c) = (((decide (Go.bits .or .u8 (c.toNat : Int) 32 < 97) || decide (Go.bits .or .u8 (c.toNat : Int) 32 > 122)) && (decide ((c.toNat : Int) < 48) || decide ((c.toNat : Int) > 57))) && decide (Lib.indexByte [42, 45, 46, 59, 61, 44, 32] c < 0)) := by
  have := Plain.all_bytes (p := fun c => (!Plain.langB c) == (((decide (Go.bits .or .u8 (c.toNat : Int) 32 < 97) || decide (Go.bits .or .u8 (c.toNat : Int) 32 > 122)) && (decide ((c.toNat : Int) < 48) || decide ((c.toNat : Int) > 57))) && decide (Lib.indexByte [42, 45, 46, 59, 61, 44, 32] c < 0))) (by decide +kernel) c
  simpa using this
set_option maxHeartbeats 1000000 in
theorem unlike_any (c : UInt8) (w : World) :
    Calls Tryd.prog 29 #[.int .u8 (c.toNat : Int)] w fun e w' => e = .returned (.bool (!Plain.langB c)) ∧ Below w.heap.size w w' := by
  have HO := Aside0.mk (unlike_as c)
  have h255 : (c.toNat : Int) < 256 := by have := UInt8.toNat_lt c; omega
  have hconv : ((c.toNat : Int)).toNat.toUInt8 = c := by simp
  have HC := Aside0.mk hconv
  clear hconv
  rw [HO.out]
  clear HO
  obtain ⟨m, hm⟩ : ∃ m, Go.bits .or .u8 (c.toNat : Int) 32 = m := ⟨_, rfl⟩
  rw [hm]
  by_cases a1 : m < 97
  · by_cases a3 : (c.toNat : Int) < 48
    · rw [decide_eq_true a1, decide_eq_true a3]
      simp only [Bool.true_or, Bool.true_and]
      go_enter Tryd.func29, Tryd.ntmps29
      go_wp2_with fail
      refine (Tryd.strings_IndexByte _ _ _).mono ?_
      rintro e W1 ⟨rfl, hw⟩
      subst hw
      rw [HC.out]
      go_wp2
      go_ret
      exact ⟨rfl, Below.refl _ _⟩
    · by_cases a4 : (c.toNat : Int) > 57
      · rw [decide_eq_true a1, decide_eq_false a3, decide_eq_true a4]
        simp only [Bool.true_or, Bool.or_true, Bool.true_and]
        go_enter Tryd.func29, Tryd.ntmps29
        go_wp2_with fail
        refine (Tryd.strings_IndexByte _ _ _).mono ?_
        rintro e W1 ⟨rfl, hw⟩
        subst hw
        rw [HC.out]
        go_wp2
        go_ret
        exact ⟨rfl, Below.refl _ _⟩
      · rw [decide_eq_true a1, decide_eq_false a3, decide_eq_false a4]
        simp only [Bool.true_or, Bool.or_false, Bool.true_and, Bool.false_and]
        go_enter Tryd.func29, Tryd.ntmps29
        go_wp2
        go_ret
        exact ⟨rfl, Below.refl _ _⟩
  · by_cases a2 : m > 122
    · by_cases a3 : (c.toNat : Int) < 48
      · rw [decide_eq_false a1, decide_eq_true a2, decide_eq_true a3]
        simp only [Bool.true_or, Bool.or_true, Bool.true_and]
        go_enter Tryd.func29, Tryd.ntmps29
        go_wp2_with fail
        refine (Tryd.strings_IndexByte _ _ _).mono ?_
        rintro e W1 ⟨rfl, hw⟩
        subst hw
        rw [HC.out]
        go_wp2
        go_ret
        exact ⟨rfl, Below.refl _ _⟩
      · by_cases a4 : (c.toNat : Int) > 57
        · rw [decide_eq_false a1, decide_eq_true a2, decide_eq_false a3, decide_eq_true a4]
          simp only [Bool.true_or, Bool.or_true, Bool.true_and]
          go_enter Tryd.func29, Tryd.ntmps29
          go_wp2_with fail
          refine (Tryd.strings_IndexByte _ _ _).mono ?_
          rintro e W1 ⟨rfl, hw⟩
          subst hw
          rw [HC.out]
          go_wp2
          go_ret
          exact ⟨rfl, Below.refl _ _⟩
        · rw [decide_eq_false a3, decide_eq_false a4]
          simp only [Bool.or_false, Bool.and_false, Bool.false_and]
          go_enter Tryd.func29, Tryd.ntmps29
          go_wp2
          go_ret
          exact ⟨rfl, Below.refl _ _⟩
    · rw [decide_eq_false a1, decide_eq_false a2]
      simp only [Bool.or_false, Bool.false_and]
      go_enter Tryd.func29, Tryd.ntmps29
      go_wp2
      go_ret
      exact ⟨rfl, Below.refl _ _⟩
theorem odd_tells (w : World) : TellsB 30 #[] (fun x => 0 ≤ x ∧ x < 256) (fun x => Plain.oddB x.toNat.toUInt8) w := by
  intro W x hx _
  obtain ⟨c, rfl, hc⟩ := byte_of hx.1 hx.2
  have := odd_any c W
  simp only [hc]
  exact this
theorem unlike_tells (w : World) : TellsB 29 #[] (fun x => 0 ≤ x ∧ x < 256) (fun x => !Plain.langB x.toNat.toUInt8) w := by
  intro W x hx _
  obtain ⟨c, rfl, hc⟩ := byte_of hx.1 hx.2
  have := unlike_any c W
  simp only [hc]
  exact this
theorem ints_any (l : List UInt8) (p : UInt8 → Bool) : (ints l).any (fun x => p x.toNat.toUInt8) = l.any p := by
  unfold ints
  rw [List.any_map]
  congr 1
  funext c
  simp
theorem withoutOdd_any (a : Addr) (s : ByteArray) (w : World) (hs : s.size ≤ 9223372036854775807) (hc : w.cell? a = some (.func (.func 30) #[] #[])) :
    Calls Tryd.prog 37 #[.string s, .pointer (some a)] w fun e w' => e = .returned (.bool (!s.data.toList.any Plain.oddB)) ∧ Below w.heap.size w w' := by
  have := without1_any 30 _ (enters_of Tryd.func30 (by kernel_rfl) rfl) a s w hs hc (odd_tells w)
  rw [ints_any] at this
  exact this
theorem withoutLang_any (a : Addr) (s : ByteArray) (w : World) (hs : s.size ≤ 9223372036854775807) (hc : w.cell? a = some (.func (.func 29) #[] #[])) :
    Calls Tryd.prog 37 #[.string s, .pointer (some a)] w fun e w' => e = .returned (.bool (s.data.toList.all Plain.langB)) ∧ Below w.heap.size w w' := by
  have := without1_any 29 _ (enters_of Tryd.func29 (by kernel_rfl) rfl) a s w hs hc (unlike_tells w)
  rw [ints_any s.data.toList (fun c => !Plain.langB c), show (!s.data.toList.any fun c => !Plain.langB c) = s.data.toList.all Plain.langB from by simp [List.all_eq_not_any_not]] at this
  exact this
end Go.Proofs.YtikhboebmmmopaaDoor.Ext
