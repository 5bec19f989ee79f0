/-
  THE PLAIN LAW of CorsAges: what the printed law computes is true. Condition: sizes of at most 1048576.
-/
import Derived.Test.YtaabfmpoodjhjaaDoorPureKxB
import Derived.Test.YtaabfmpoodjhjaaDoorFunWAgesxB
import Derived.Laws.BitsLemmas
namespace Go.Proofs.YtaabfmpoodjhjaaDoor.Pure
open Go.RowKit Go.Proofs.YtaabfmpoodjhjaaDoorW.PrintWords
open Go.Proofs.YtaabfmpoodjhjaaDoor.Ext (txt Big)
open Go.Proofs.YtaabfmpoodjhjaaDoor.Fun
theorem and48 (n : Int) : Go.bits .and .i64 n 281474976710655 = n % 281474976710656 := by
  have h48 : (BitVec.ofInt 64 281474976710655).toNat = 2 ^ 48 - 1 := by decide
  have key : (BitVec.ofInt 64 n &&& BitVec.ofInt 64 281474976710655).toNat = (n % ((2 ^ 64 : Nat) : Int)).toNat % 2 ^ 48 := by
    rw [BitVec.toNat_and, BitVec.toNat_ofInt, h48, Nat.and_two_pow_sub_one_eq_mod]
  show IntKind.i64.wrap ((BitVec.ofInt 64 n &&& BitVec.ofInt 64 281474976710655).toNat : Nat) = n % 281474976710656
  rw [key, IntKind.wrap_i64]
  omega
theorem the_n (n : Int) : ∃ m : Nat, m < 1000000000 ∧ Int.tmod (Go.bits .and .i64 n 281474976710655) 1000000000 = (m : Int) := by
  rw [and48]
  have h0 : 0 ≤ n % 281474976710656 := Int.emod_nonneg _ (by omega)
  rw [Int.tmod_eq_emod_of_nonneg h0]
  exact ⟨(n % 281474976710656 % 1000000000).toNat, by omega, by omega⟩
theorem dig_ok : ∀ (j n : Nat), n < 10 ^ (j + 1) → (digL n).all Ext.isDig = true ∧ digL n ≠ [] ∧ (digL n).length ≤ j + 1 ∧ Ext.numG (digL n) = n
  | 0, n, h => by
    have hn : n < 10 := by simpa using h
    rw [digL_small hn]
    refine ⟨?_, by simp, by simp, ?_⟩
    · have : ∀ m, m < 10 → Ext.isDig (UInt8.ofNat (48 + m)) = true := by decide
      simpa using this n hn
    · have : ∀ m, m < 10 → Ext.numG [UInt8.ofNat (48 + m)] = m := by decide
      exact this n hn
  | j + 1, n, h => by
    by_cases hn : n < 10
    · obtain ⟨h1, h2, h3, h4⟩ := dig_ok 0 n (by simpa using hn)
      exact ⟨h1, h2, by omega, h4⟩
    · have hd : n / 10 < 10 ^ (j + 1) := by
        rw [Nat.pow_succ] at h
        omega
      obtain ⟨h1, h2, h3, h4⟩ := dig_ok j (n / 10) hd
      have hm : n % 10 < 10 := Nat.mod_lt _ (by omega)
      rw [digL_big hn]
      refine ⟨?_, by simp, by rw [List.length_append]; simp only [List.length_cons, List.length_nil]; omega, ?_⟩
      · have : ∀ m, m < 10 → Ext.isDig (UInt8.ofNat (48 + m)) = true := by decide
        rw [List.all_append, h1]
        simpa using this _ hm
      · have : ∀ m, m < 10 → (UInt8.ofNat (48 + m)).toNat - 48 = m := by decide
        rw [Ext.numG_snoc, h4, this _ hm]
        omega
theorem digits_f (k n : Nat) (h : n < 1000000000) : transeptlaw17_digits.f k (n : Int) = some (txt (digL n)) := by
  unfold transeptlaw17_digits.f
  rw [if_pos ⟨by omega, by omega⟩, Int.toNat_natCast]
theorem fits_one (f : S40) (h0 : f.f0.size ≤ 1048600) (h1 : f.f1.size ≤ 1048577) : Fits [f] :=
  ⟨by show 1 ≤ 1048576; omega, fun g hg => by rw [List.mem_singleton.1 hg]; exact h0, fun g hg => by rw [List.mem_singleton.1 hg]; exact h1⟩
theorem only_one (f : S40) (n : List UInt8) (h : Plain.foldB f.f0.data.toList n = true) : onlyP [f] n = (f.f1.data.toList, true) := by
  unfold onlyP sel
  simp [h]
theorem only_two (f g : S40) (n : List UInt8) (h : Plain.foldB f.f0.data.toList n = true) (h2 : Plain.foldB g.f0.data.toList n = true) : onlyP [f, g] n = ([], false) := by
  unfold onlyP sel
  simp [h, h2]
def mAge : ByteArray := ⟨#[65, 99, 99, 101, 115, 115, 45, 67, 111, 110, 116, 114, 111, 108, 45, 109, 97, 120, 45, 97, 103, 101]⟩
def mAge2 : ByteArray := ⟨#[65, 99, 99, 101, 115, 115, 45, 67, 111, 110, 116, 114, 111, 108, 45, 77, 97, 120, 45, 65, 103, 101]⟩
theorem mAge_fold : Plain.foldB mAge.data.toList nAge = true := by decide +kernel
theorem mAge2_fold : Plain.foldB mAge2.data.toList nAge = true := by decide +kernel
theorem age_one (v : ByteArray) : ageP [⟨mAge, v⟩] = if (Ext.numB v.data.toList 7200).2 = true then (Ext.numB v.data.toList 7200).1 else 5 := by
  unfold ageP
  rw [only_one ⟨mAge, v⟩ nAge mAge_fold, if_pos rfl]
theorem age_two (v w : ByteArray) : ageP [⟨mAge2, v⟩, ⟨mAge, w⟩] = 5 := by
  unfold ageP
  rw [only_two ⟨mAge2, v⟩ ⟨mAge, w⟩ nAge mAge2_fold mAge_fold, if_neg (by decide)]
theorem num_dig (n : Nat) (h : n < 1000000000) : Ext.numB (digL n) 7200 = (mn (n : Int) 7200, true) := by
  obtain ⟨h1, h2, h3, h4⟩ := dig_ok 8 n (by simpa using h)
  unfold Ext.numB
  rw [if_neg (by rintro (e | e); exact h2 e; omega), if_pos h1, h4]
  rfl
theorem num_bad (s : List UInt8) (h : s.all Ext.isDig = false ∨ s = []) : (Ext.numB s 7200).2 = false := by
  unfold Ext.numB
  by_cases h0 : s = [] ∨ 9 < s.length
  · rw [if_pos h0]
  · rw [if_neg h0]
    rcases h with h | h
    · rw [if_neg (by rw [h]; decide)]
    · exact absurd (.inl h) h0
theorem allow_age (n v r : ByteArray) (h : 15 + n.size ≤ 9223372036854775807) (e : (⟨#[65, 99, 99, 101, 115, 115, 45, 67, 111, 110, 116, 114, 111, 108, 45]⟩ : ByteArray) ++ n = r) : transeptlaw17_allow.f n v = some (r, v) := by
  unfold transeptlaw17_allow.f
  rw [if_pos h, e]
theorem ages_l0 (n : Nat) (hn : n < 1000000000) (s : ByteArray) (hs : s.size ≤ 1048576) (d : Nat) : ∀ (k i : Nat), s.size - i = d → i ≤ s.size → d + 100 < k →
    transeptlaw17_CorsAges.l0 k (n : Int) s true (!(s.data.toList.take i).all Ext.isDig) (i : Int) = some true := by
  have hl := len_eq s
  have hdl : (txt (digL n)).size ≤ 9 := by
    obtain ⟨_, _, h3, _⟩ := dig_ok 8 n (by simpa using hn)
    rw [Ext.txt_size]
    omega
  induction d with
  | zero =>
    intro k i hd hi hk
    obtain ⟨k, rfl⟩ : ∃ m, k = m + 1 := ⟨k - 1, by omega⟩
    rw [List.take_of_length_le (by omega)]
    have m27 : mAge.size = 22 := rfl
    have m28 : mAge2.size = 22 := rfl
    have b1 : ∀ v, transeptlaw17_allow.f (⟨#[109, 97, 120, 45, 97, 103, 101]⟩ : ByteArray) v = some (mAge, v) := fun v => allow_age _ _ _ (by decide +kernel) (by decide +kernel)
    have b2 : ∀ v, transeptlaw17_allow.f (⟨#[77, 97, 120, 45, 65, 103, 101]⟩ : ByteArray) v = some (mAge2, v) := fun v => allow_age _ _ _ (by decide +kernel) (by decide +kernel)
    have F1 := fits_one ⟨mAge, txt (digL n)⟩ (by show mAge.size ≤ _; omega) (by show (txt (digL n)).size ≤ _; omega)
    have F3 := fits_one ⟨mAge, s⟩ (by show mAge.size ≤ _; omega) (by show s.size ≤ _; omega)
    have F2 : Fits [(⟨mAge2, txt (digL n)⟩ : S40), ⟨mAge, txt (digL n)⟩] := by
      refine ⟨by show 2 ≤ 1048576; omega, fun g hg => ?_, fun g hg => ?_⟩
      · rcases List.mem_cons.1 hg with rfl | hg
        · show mAge2.size ≤ _; omega
        · rw [List.mem_singleton.1 hg]; show mAge.size ≤ _; omega
      · rcases List.mem_cons.1 hg with rfl | hg
        · show (txt (digL n)).size ≤ _; omega
        · rw [List.mem_singleton.1 hg]; show (txt (digL n)).size ≤ _; omega
    have q1 : cors_Age.f k [(⟨mAge, txt (digL n)⟩ : S40)] = some (mn (n : Int) 7200) := by
      rw [age_f F1 k (by simp only [List.length_cons, List.length_nil]; omega), age_one, Ext.txt_data, num_dig n hn, if_pos rfl]
    have q2 : cors_Age.f k [(⟨mAge2, txt (digL n)⟩ : S40), ⟨mAge, txt (digL n)⟩] = some 5 := by
      rw [age_f F2 k (by simp only [List.length_cons, List.length_nil]; omega), age_two]
    have q3 : s.data.toList.all Ext.isDig = false ∨ s.data.toList = [] → cors_Age.f k [(⟨mAge, s⟩ : S40)] = some 5 := by
      intro h
      rw [age_f F3 k (by simp only [List.length_cons, List.length_nil]; omega), age_one, num_bad _ h, if_neg (by decide)]
    have w0 : ¬ (i : Int) < (s.size : Int) := by omega
    simp only [transeptlaw17_CorsAges.l0, if_neg w0, digits_f k n hn, b1, b2, Option.bind_some, if_true, q1, q2]
    cases ha : s.data.toList.all Ext.isDig with
    | false =>
      simp only [Bool.not_false, if_true, q3 (.inl ha), Option.bind_some]
      rfl
    | true =>
      simp only [Bool.not_true, Bool.false_eq_true, if_false]
      by_cases he : s.data.toList = []
      · rw [if_pos (by rw [list_eq]; exact he), q3 (.inr he)]
        rfl
      · rw [if_neg (by rw [list_eq]; exact he)]
  | succ d ih =>
    intro k i hd hi hk
    obtain ⟨k, rfl⟩ : ∃ m, k = m + 1 := ⟨k - 1, by omega⟩
    have hli : i < s.data.toList.length := by omega
    have hw : wrap64 ((i : Int) + 1) = ((i + 1 : Nat) : Int) := by
      exact wrap_in (by omega) (by omega)
    have w0 : (0 : Int) ≤ (i : Int) := by omega
    have w1 : (i : Int) < (s.size : Int) := by omega
    have hih := ih k (i + 1) (by omega) (by omega) (by omega)
    clear ih
    obtain ⟨c, hc⟩ : ∃ c, c = s.data.toList[i] := ⟨_, rfl⟩
    have hb := bt_nat s i hli
    rw [← hc] at hb
    rw [List.take_succ_eq_append_getElem hli, List.all_append, ← hc] at hih
    simp only [List.all_cons, List.all_nil, Bool.and_true] at hih
    have hdig : Ext.isDig c = (!decide ((c.toNat : Int) < 48) && !decide ((c.toNat : Int) > 57)) := by
      have h48 : (48 : UInt8).toNat = 48 := rfl
      have h57 : (57 : UInt8).toNat = 57 := rfl
      unfold Ext.isDig
      rw [Bool.eq_iff_iff]
      simp only [Bool.and_eq_true, decide_eq_true_eq, Bool.not_eq_true', decide_eq_false_iff_not, UInt8.le_iff_toNat_le]
      omega
    cases ha : (s.data.toList.take i).all Ext.isDig with
    | false =>
      rw [ha, show (!(false && Ext.isDig c)) = true from rfl] at hih
      rw [show (!false) = true from rfl]
      simp only [transeptlaw17_CorsAges.l0]
      rw [if_pos w1, if_pos trivial, hw]
      exact hih
    | true =>
      rw [ha] at hih
      rw [show (!true) = false from rfl]
      simp only [transeptlaw17_CorsAges.l0]
      rw [if_pos w1, if_neg (by decide), if_pos w0, hb, hw]
      by_cases h1 : (c.toNat : Int) < 48
      · have e : Ext.isDig c = false := by rw [hdig, decide_eq_true h1]; rfl
        rw [e, show (!(true && false)) = true from rfl] at hih
        rw [if_pos h1]
        exact hih
      · have e : (!(true && Ext.isDig c)) = decide ((c.toNat : Int) > 57) := by
          rw [hdig, decide_eq_false h1]
          cases decide ((c.toNat : Int) > 57) <;> rfl
        rw [e] at hih
        rw [if_neg h1]
        exact hih
theorem CorsAges (a0 : Int) (a1 : ByteArray) (h0 : (Lit.int .i64 a0).wf = true) (h1 : a1.size ≤ 1048576) : ∃ k, transeptlaw17_CorsAges.f k a0 a1 = some true := by
  obtain ⟨k, hk⟩ : ∃ k : Nat, 9000000000000 < k := ⟨_, Nat.lt_succ_self _⟩
  refine ⟨k, ?_⟩
  obtain ⟨n, hn, e⟩ := the_n a0
  unfold transeptlaw17_CorsAges.f
  rw [show transeptlaw17_shown.f k = some true from rfl]
  simp only [Option.bind_some]
  rw [e]
  have := ages_l0 n hn a1 h1 _ k 0 rfl (by omega) (by omega)
  rw [List.take_zero] at this
  exact this
end Go.Proofs.YtaabfmpoodjhjaaDoor.Pure
