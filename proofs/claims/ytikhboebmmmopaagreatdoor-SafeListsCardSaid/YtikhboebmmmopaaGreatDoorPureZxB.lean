/-
  PLAIN LAWS: what the printed functions of the references (odd, plain, Essence, Number, ranged, Header, Method, Never, Reads, Hidden) come to: the same as those of the program. Conditions: rounds enough; sizes as told.
-/
import Derived.Test.YtikhboebmmmopaaGreatDoorPureAxB
import Derived.Test.YtikhboebmmmopaaGreatDoorPureSxB
namespace Go.Proofs.YtikhboebmmmopaaGreatDoor.PureZ
open Go.RowKit Go.Proofs.YtikhboebmmmopaaGreatDoorW.PrintWords Go.Proofs.YtikhboebmmmopaaGreatDoorW.PrintMore
open Go.Proofs.YtikhboebmmmopaaGreatDoor.Ext (txt Big)
open Go.Proofs.YtikhboebmmmopaaGreatDoor.Fun
open Go.Proofs.YtikhboebmmmopaaGreatDoor.PureE (mwrap mlen mlist mextract mtl upTo_len past_len essT essT_some essT_none)
open Go.Proofs.YtikhboebmmmopaaGreatDoor.PureS (idxI idxI_cons idx_lists rd_V eq_list lSafe safeP)
open Go.Proofs.YtikhboebmmmopaaGreatDoor.Plain (upTo past essence)

theorem frlower (s : ByteArray) (hs : s.size ≤ Big) : transeptref09_Lower.f s = some (txt (Plain.lower s.data.toList)) := by
  unfold transeptref09_Lower.f
  rw [Ext.turned_lower s hs]
  rfl
theorem ftl (l : List UInt8) : (txt l).toList = l := by rw [list_eq, Ext.txt_data]
theorem fapp (a b : List UInt8) : txt a ++ txt b = txt (a ++ b) := by
  apply Ext.data_inj
  simp [Ext.txt_data]
theorem rnumber_l0 (s : ByteArray) (most : Int) (hs : s.size ≤ 9) (d : Nat) : ∀ (k i : Nat), s.size - i = d → i ≤ s.size → d < k → (s.data.toList.take i).all Ext.isDig = true →
    transeptref10_Number.l0 k s most (Ext.numG (s.data.toList.take i) : Int) (i : Int) = some (if s.data.toList.all Ext.isDig = true then (mn (Ext.numG s.data.toList : Int) most, true) else (0, false)) := by
  have hl := len_eq s
  induction d with
  | zero =>
    intro k i hd hi hk hall
    obtain ⟨k, rfl⟩ : ∃ m, k = m + 1 := ⟨k - 1, by omega⟩
    rw [List.take_of_length_le (by omega)] at hall ⊢
    simp only [transeptref10_Number.l0]
    rw [if_neg (by omega), if_pos hall]
  | succ d ih =>
    intro k i hd hi hk hall
    obtain ⟨k, rfl⟩ : ∃ m, k = m + 1 := ⟨k - 1, by omega⟩
    have hli : i < s.data.toList.length := by omega
    have hb := bt_nat s i hli
    have hlt := Ext.numG_lt i (s.data.toList.take i) (by rw [List.length_take]; omega) hall
    have h10 : Ext.numG (s.data.toList.take i) < 1000000000 := by
      have : (10 : Nat) ^ i ≤ 10 ^ 9 := Nat.pow_le_pow_right (by omega) (by omega)
      omega
    obtain ⟨c, hc⟩ : ∃ c, c = s.data.toList[i] := ⟨_, rfl⟩
    rw [← hc] at hb
    have hc255 : c.toNat < 256 := UInt8.toNat_lt c
    have htk : s.data.toList.take (i + 1) = s.data.toList.take i ++ [c] := by rw [List.take_succ_eq_append_getElem hli, hc]
    simp only [transeptref10_Number.l0]
    rw [if_pos (by omega), if_pos (by omega), hb]
    by_cases h0 : (c.toNat : Int) < 48
    · rw [if_pos h0, if_neg]
      intro hd2
      have := List.all_eq_true.1 hd2 c (by rw [hc]; exact List.getElem_mem hli)
      simp only [Ext.isDig, Bool.and_eq_true, decide_eq_true_eq, UInt8.le_iff_toNat_le] at this
      have h48 : (48 : UInt8).toNat = 48 := rfl
      omega
    · by_cases h1 : (c.toNat : Int) > 57
      · rw [if_neg h0, if_pos h1, if_neg]
        intro hd2
        have := List.all_eq_true.1 hd2 c (by rw [hc]; exact List.getElem_mem hli)
        simp only [Ext.isDig, Bool.and_eq_true, decide_eq_true_eq, UInt8.le_iff_toNat_le] at this
        have h57 : (57 : UInt8).toNat = 57 := rfl
        omega
      · rw [if_neg h0, if_neg h1, wrap_in (i := 10 * (Ext.numG (s.data.toList.take i) : Int)) (by omega) (by omega), wrap_in (by omega) (by omega), wrap_in (by omega) (by omega), show ((i : Int) + 1) = ((i + 1 : Nat) : Int) from by omega]
        have hn : (10 * (Ext.numG (s.data.toList.take i) : Int) + ((c.toNat : Int) - 48) % 256) = ((Ext.numG (s.data.toList.take (i + 1)) : Nat) : Int) := by
          rw [htk, Ext.numG_snoc]
          omega
        rw [hn]
        refine ih k (i + 1) (by omega) (by omega) (by omega) ?_
        rw [htk, List.all_append, hall]
        simp only [List.all_cons, List.all_nil, Bool.and_true, Bool.true_and, Ext.isDig, Bool.and_eq_true, decide_eq_true_eq, UInt8.le_iff_toNat_le]
        have h48 : (48 : UInt8).toNat = 48 := rfl
        have h57 : (57 : UInt8).toNat = 57 := rfl
        exact ⟨by omega, by omega⟩
theorem rnumber_f (s : ByteArray) (most : Int) (hs : s.size ≤ Big) (k : Nat) (hk : 20 < k) : transeptref10_Number.f k s most = some (Ext.numB s.data.toList most) := by
  have hl := len_eq s
  obtain ⟨k, rfl⟩ : ∃ m, k = m + 1 := ⟨k - 1, by omega⟩
  unfold transeptref10_Number.f Ext.numB
  rw [list_eq]
  by_cases h0 : s.data.toList = []
  · rw [if_pos h0, if_pos (.inl h0)]
    simp only [transeptref10_Number.j0]
    rfl
  · rw [if_neg h0]
    simp only [transeptref10_Number.j0]
    by_cases h9 : (s.size : Int) > 9
    · rw [decide_eq_true h9, if_pos rfl, if_pos (.inr (by omega))]
    · rw [decide_eq_false h9, if_neg (by decide), if_neg (by rintro (h | h); exact h0 h; omega)]
      have := rnumber_l0 s most (by omega) s.size k 0 (by omega) (by omega) (by omega) (by simp)
      rw [List.take_zero] at this
      rw [show ((0 : Int)) = ((Ext.numG [] : Nat) : Int) from rfl]
      refine this.trans ?_
      rfl
theorem among_l0 (l : List ByteArray) (x : ByteArray) (hl : l.length ≤ 1000000000000000000) (d : Nat) : ∀ (k i : Nat), l.length - i = d → i ≤ l.length → d < k → transeptref12_among.l0 k l x (i : Int) = some (idxI (l.drop i) x) := by
  induction d with
  | zero =>
    intro k i hd hi hk
    obtain ⟨k, rfl⟩ : ∃ m, k = m + 1 := ⟨k - 1, by omega⟩
    simp only [transeptref12_among.l0]
    rw [if_neg (by omega), drop_end (by omega)]
    rfl
  | succ d ih =>
    intro k i hd hi hk
    obtain ⟨k, rfl⟩ : ∃ m, k = m + 1 := ⟨k - 1, by omega⟩
    have hli : i < l.length := by omega
    simp only [transeptref12_among.l0]
    rw [if_pos (by omega), if_pos (by omega), rd_V l i hli, drop_cons hli, idxI_cons]
    by_cases h : l[i].toList = x.toList
    · have h' := (eq_list _ _).1 h
      rw [if_pos h, decide_eq_true h'.symm, Bool.true_or]
    · have h' : ¬ x = l[i] := fun e => h ((eq_list _ _).2 e.symm)
      rw [if_neg h, decide_eq_false h', Bool.false_or, wrap_in (by omega) (by omega), show ((i : Int) + 1) = ((i + 1 : Nat) : Int) from by omega, ih k (i + 1) (by omega) (by omega) (by omega)]
theorem among_f (l : List ByteArray) (x : ByteArray) (hl : l.length ≤ 1000000000000000000) (k : Nat) (hk : l.length < k) : transeptref12_among.f k l x = some (idxI l x) := by
  unfold transeptref12_among.f
  rw [show (0 : Int) = ((0 : Nat) : Int) from rfl, among_l0 l x hl l.length k 0 (by omega) (by omega) hk, List.drop_zero]
theorem until_l0 (s : ByteArray) (c : UInt8) (hs : s.size ≤ 4611686018427387904) (d : Nat) : ∀ (k i : Nat), s.size - i = d → i ≤ s.size → d < k → c ∉ s.data.toList.take i →
    transeptref11_until.l0 k s (c.toNat : Int) (i : Int) = some (txt (upTo c s.data.toList), txt (past c s.data.toList), s.data.toList.contains c) := by
  have hl := len_eq s
  induction d with
  | zero =>
    intro k i hd hi hk hno
    obtain ⟨k, rfl⟩ : ∃ m, k = m + 1 := ⟨k - 1, by omega⟩
    simp only [transeptref11_until.l0]
    rw [List.take_of_length_le (by omega)] at hno
    rw [if_neg (by omega), Plain.upTo_none c _ hno, Plain.past_none c _ hno, Ext.txt_self, show s.data.toList.contains c = false from by simpa using hno]
    rfl
  | succ d ih =>
    intro k i hd hi hk hno
    obtain ⟨k, rfl⟩ : ∃ m, k = m + 1 := ⟨k - 1, by omega⟩
    have hli : i < s.data.toList.length := by omega
    simp only [transeptref11_until.l0]
    rw [if_pos (by omega), if_pos (by omega), bt_nat s i hli]
    by_cases h : s.data.toList[i] = c
    · have hsp : s.data.toList = s.data.toList.take i ++ c :: s.data.toList.drop (i + 1) := by
        rw [← h, ← drop_cons hli, List.take_append_drop]
      have e1 : upTo c s.data.toList = s.data.toList.take i := by
        conv => lhs; rw [hsp]
        exact Plain.upTo_at c _ _ hno
      have e2 : past c s.data.toList = s.data.toList.drop (i + 1) := by
        conv => lhs; rw [hsp]
        exact Plain.past_at c _ _ hno
      have e3 : s.data.toList.contains c = true := by
        rw [List.contains_iff_mem, ← h]
        exact List.getElem_mem hli
      rw [if_pos (by rw [h]), if_pos (by omega), wrap_in (by omega) (by omega), if_pos (by omega), if_pos (by omega), e1, e2, e3, Int.toNat_natCast, show ((i : Int) + 1).toNat = i + 1 by omega, extract_list, extract_list]
      rw [List.drop_zero, Nat.sub_zero, List.take_of_length_le (l := s.data.toList.drop (i + 1)) (by rw [List.length_drop]; omega)]
    · rw [if_neg (fun e => h (by rw [← UInt8.toNat_inj]; omega)), wrap_in (by omega) (by omega), show ((i : Int) + 1) = ((i + 1 : Nat) : Int) from by omega]
      refine ih k (i + 1) (by omega) (by omega) (by omega) ?_
      rw [List.take_succ_eq_append_getElem hli]
      intro hm
      rcases List.mem_append.1 hm with hm | hm
      · exact hno hm
      · exact h (List.mem_singleton.1 hm).symm
theorem until_f (s : ByteArray) (c : UInt8) (hs : s.size ≤ 4611686018427387904) (k : Nat) (hk : s.size < k) : transeptref11_until.f k s (c.toNat : Int) = some (txt (upTo c s.data.toList), txt (past c s.data.toList), s.data.toList.contains c) := by
  unfold transeptref11_until.f
  rw [show (0 : Int) = ((0 : Nat) : Int) from rfl]
  exact until_l0 s c hs s.size k 0 (by omega) (by omega) hk (by simp)

theorem ress_j0 (k : Nat) (a b : List UInt8) (ha : a.length ≤ 1000000000000000000) (hb : b.length ≤ 1000000000000000000) (q : Bool) : transeptref11_Essence.j0 (k + 1) (txt a) (txt b) q = some (if q = true then (⟨#[]⟩, false) else (txt (Plain.lower a ++ [47] ++ Plain.lower b), true)) := by
  simp only [transeptref11_Essence.j0]
  cases q with
  | true => rfl
  | false =>
    rw [if_neg (by decide), if_neg (by decide), frlower _ (by rw [Ext.txt_size]; unfold Ext.Big; omega), frlower _ (by rw [Ext.txt_size]; unfold Ext.Big; omega)]
    simp only [Option.bind_some, Ext.txt_data]
    rw [show (⟨#[47]⟩ : ByteArray) = txt [47] from rfl, fapp, fapp, Ext.txt_size, Ext.txt_size, Ext.txt_size, Plain.lower_length, if_pos (by omega), List.length_append, Plain.lower_length, Plain.lower_length, List.length_singleton, if_pos (by omega)]
theorem ress_f (s : ByteArray) (hs : s.size ≤ 1000000000000000) (k : Nat) (hk : s.size + s.size + 20 < k) : transeptref11_Essence.f k s = some (essT s.data.toList) := by
  obtain ⟨k, rfl⟩ : ∃ m, k = m + 1 := ⟨k - 1, by omega⟩
  have hl := len_eq s
  obtain ⟨t, ht⟩ : ∃ t, t = Plain.trimB (upTo 59 s.data.toList) := ⟨_, rfl⟩
  have hu := upTo_len 59 s.data.toList
  have ht1 : t.length ≤ s.size := by
    rw [ht]
    have : (Plain.trimB (upTo 59 s.data.toList)).length ≤ _ := Plain.trimP_length _ _
    omega
  have h1 := upTo_len 47 t
  have h2 := past_len 47 t
  have c59 := until_f s 59 (by omega) (k + 1) (by omega)
  have ctr := rtrim_f (txt (upTo 59 s.data.toList)) (by rw [Ext.txt_size]; unfold Ext.Big; omega) (k + 1) (by rw [Ext.txt_size]; omega)
  rw [Ext.txt_data, ← ht] at ctr
  have c47 := until_f (txt t) 47 (by rw [Ext.txt_size]; omega) (k + 1) (by rw [Ext.txt_size]; omega)
  rw [Ext.txt_data] at c47
  have n1 := name_f (txt (upTo 47 t)) (by rw [Ext.txt_size]; unfold Ext.Big; omega) (k + 1) (by rw [Ext.txt_size]; omega)
  have n2 := name_f (txt (past 47 t)) (by rw [Ext.txt_size]; unfold Ext.Big; omega) (k + 1) (by rw [Ext.txt_size]; omega)
  rw [Ext.txt_data] at n1 n2
  rw [show (((59 : UInt8).toNat : Nat) : Int) = 59 from rfl] at c59
  rw [show (((47 : UInt8).toNat : Nat) : Int) = 47 from rfl] at c47
  unfold transeptref11_Essence.f
  rw [c59]
  simp only [Option.bind_some]
  rw [ctr]
  simp only [Option.bind_some]
  rw [c47]
  simp only [Option.bind_some]
  rw [n1, n2]
  simp only [Option.bind_some]
  rw [ress_j0 k _ _ (by omega) (by omega), ress_j0 k _ _ (by omega) (by omega)]
  unfold essT essence
  rw [← ht]
  by_cases a1 : t.contains 47 = true
  · rw [if_pos a1]
    by_cases a2 : Plain.nameB (upTo 47 t) = true
    · rw [if_pos a2]
      by_cases a3 : Plain.nameB (past 47 t) = true
      · rw [a3, if_neg (by decide), if_pos ⟨a1, a2, rfl⟩]
        simp only [Plain.lower, List.map_append, List.map_cons, List.append_assoc, List.singleton_append, show Plain.lowC 47 = 47 from by decide]
      · rw [Bool.eq_false_iff.mpr a3, if_pos (by rfl), if_neg (fun h => by cases h.2.2)]
    · rw [if_neg a2, if_pos rfl, if_neg (fun h => a2 h.2.1)]
  · rw [if_neg a1, if_pos rfl, if_neg (fun h => a1 h.1)]

/-! ### which one counts -/

/-! ### odd, plain -/
theorem odd_step (c : UInt8) : Plain.oddB c = (if (c.toNat : Int) < 32 then (if (c.toNat : Int) = 9 then (if (c.toNat : Int) = 127 then true else [34, 40, 41, 58, 60, 62, 63, 64, 91, 92, 93, 123, 125].contains c) else true) else (if (c.toNat : Int) = 127 then true else [34, 40, 41, 58, 60, 62, 63, 64, 91, 92, 93, 123, 125].contains c)) := by
  have := Plain.all_bytes (p := fun c => Plain.oddB c == (if (c.toNat : Int) < 32 then (if (c.toNat : Int) = 9 then (if (c.toNat : Int) = 127 then true else [34, 40, 41, 58, 60, 62, 63, 64, 91, 92, 93, 123, 125].contains c) else true) else (if (c.toNat : Int) = 127 then true else [34, 40, 41, 58, 60, 62, 63, 64, 91, 92, 93, 123, 125].contains c))) (by decide +kernel) c
  simpa using this
theorem lang_step (c : UInt8) : Plain.langB c = (if Plain.isAlnum c = true then true else [42, 45, 46, 59, 61, 44, 32].contains c) := by
  unfold Plain.langB
  cases Plain.isAlnum c <;> simp
theorem in_odd (k : Nat) (c : UInt8) (hk : 20 < k) : transeptref09_In.f k (⟨#[34, 40, 41, 58, 60, 62, 63, 64, 91, 92, 93, 123, 125]⟩ : ByteArray) (c.toNat : Int) = some ([34, 40, 41, 58, 60, 62, 63, 64, 91, 92, 93, 123, 125].contains c) := by
  rw [in_f _ _ (by decide +kernel) k (by show 13 < k; omega)]
  exact congrArg some (inI_byte [34, 40, 41, 58, 60, 62, 63, 64, 91, 92, 93, 123, 125] c)
theorem in_lang (k : Nat) (c : UInt8) (hk : 20 < k) : transeptref09_In.f k (⟨#[42, 45, 46, 59, 61, 44, 32]⟩ : ByteArray) (c.toNat : Int) = some ([42, 45, 46, 59, 61, 44, 32].contains c) := by
  rw [in_f _ _ (by decide +kernel) k (by show 7 < k; omega)]
  exact congrArg some (inI_byte [42, 45, 46, 59, 61, 44, 32] c)
theorem odd_l0 (s : ByteArray) (hs : s.size ≤ 140737488351300) (d : Nat) : ∀ (k i : Nat), s.size - i = d → i ≤ s.size → d + 40 < k → transeptref12_odd.l0 k s (i : Int) = some ((s.data.toList.drop i).any Plain.oddB) := by
  have hl := len_eq s
  induction d with
  | zero =>
    intro k i hd hi hk
    obtain ⟨k, rfl⟩ : ∃ m, k = m + 1 := ⟨k - 1, by omega⟩
    have c1 : ¬ (i : Int) < (s.size : Int) := by omega
    simp only [transeptref12_odd.l0, if_neg c1]
    rw [drop_end (by omega)]
    rfl
  | succ d ih =>
    intro k i hd hi hk
    obtain ⟨k, rfl⟩ : ∃ m, k = m + 1 := ⟨k - 1, by omega⟩
    have hli : i < s.data.toList.length := by omega
    have hb := bt_nat s i hli
    have hdr := drop_cons hli
    have c1 : (i : Int) < (s.size : Int) := by omega
    have c2 : (0 : Int) ≤ (i : Int) := by omega
    have b5 : i + 1 ≤ 9223372036854775807 := by omega
    have hI := ih k (i + 1) (by omega) (by omega) (by omega)
    generalize s.data.toList[i] = c at hb hdr
    have hin := in_odd k c (by omega)
    have w := PureS.wrap_one i b5
    have hst := odd_step c
    rw [hdr, List.any_cons]
    simp only [transeptref12_odd.l0, if_pos c1, if_pos c2, hb, hin, Option.bind_some, w, hI]
    rw [hst]
    by_cases q1 : (c.toNat : Int) < 32
    · by_cases q2 : (c.toNat : Int) = 9
      · have q3 : ¬ (c.toNat : Int) = 127 := by omega
        rw [if_pos q1, if_pos q2, if_neg q3, if_pos q1, if_pos q2, if_neg q3]
        cases [34, 40, 41, 58, 60, 62, 63, 64, 91, 92, 93, 123, 125].contains c <;> simp
      · rw [if_pos q1, if_neg q2, if_pos q1, if_neg q2]
        simp
    · by_cases q3 : (c.toNat : Int) = 127
      · rw [if_neg q1, if_pos q3, if_neg q1, if_pos q3]
        simp
      · rw [if_neg q1, if_neg q3, if_neg q1, if_neg q3]
        cases [34, 40, 41, 58, 60, 62, 63, 64, 91, 92, 93, 123, 125].contains c <;> simp
theorem odd_f (s : ByteArray) (hs : s.size ≤ 140737488351300) (k : Nat) (hk : 200000000000000 < k) : transeptref12_odd.f k s = some (s.data.toList.any Plain.oddB) := by
  unfold transeptref12_odd.f
  have := odd_l0 s hs s.size k 0 (by omega) (by omega) (by omega)
  rw [List.drop_zero] at this
  exact this
theorem plain_l0 (s : ByteArray) (hs : s.size ≤ 140737488351300) (d : Nat) : ∀ (k i : Nat), s.size - i = d → i ≤ s.size → d + 40 < k → transeptref12_plain.l0 k s (i : Int) = some ((s.data.toList.drop i).all Plain.langB) := by
  have hl := len_eq s
  induction d with
  | zero =>
    intro k i hd hi hk
    obtain ⟨k, rfl⟩ : ∃ m, k = m + 1 := ⟨k - 1, by omega⟩
    have c1 : ¬ (i : Int) < (s.size : Int) := by omega
    simp only [transeptref12_plain.l0, if_neg c1]
    rw [drop_end (by omega)]
    rfl
  | succ d ih =>
    intro k i hd hi hk
    obtain ⟨k, rfl⟩ : ∃ m, k = m + 1 := ⟨k - 1, by omega⟩
    have hli : i < s.data.toList.length := by omega
    have hb := bt_nat s i hli
    have hdr := drop_cons hli
    have c1 : (i : Int) < (s.size : Int) := by omega
    have c2 : (0 : Int) ≤ (i : Int) := by omega
    have b5 : i + 1 ≤ 9223372036854775807 := by omega
    have hI := ih k (i + 1) (by omega) (by omega) (by omega)
    generalize s.data.toList[i] = c at hb hdr
    have hin := in_lang k c (by omega)
    have w := PureS.wrap_one i b5
    have hst := lang_step c
    have hal := alnum_f c
    rw [hdr, List.all_cons]
    simp only [transeptref12_plain.l0, if_pos c1, if_pos c2, hb, hin, hal, Option.bind_some, w, hI]
    rw [hst]
    cases Plain.isAlnum c
    · cases [42, 45, 46, 59, 61, 44, 32].contains c <;> simp
    · simp
theorem plain_f (s : ByteArray) (hs : s.size ≤ 140737488351300) (k : Nat) (hk : 200000000000000 < k) : transeptref12_plain.f k s = some (s.data.toList.all Plain.langB) := by
  unfold transeptref12_plain.f
  have := plain_l0 s hs s.size k 0 (by omega) (by omega) (by omega)
  rw [List.drop_zero] at this
  exact this

/-! ### ranged -/
theorem rang_l0 (s : ByteArray) (hs : s.size ≤ 140737488351300) (d : Nat) : ∀ (k i : Nat), s.size - i = d → i ≤ s.size → d + 40 < k → (45 : UInt8) ∉ s.data.toList.take i → transeptref12_ranged.l0 k s (i : Int) = some (Plain.rangR s.data.toList) := by
  have hl := len_eq s
  induction d with
  | zero =>
    intro k i hd hi hk hno
    obtain ⟨k, rfl⟩ : ∃ m, k = m + 1 := ⟨k - 1, by omega⟩
    have c1 : ¬ (i : Int) < (s.size : Int) := by omega
    rw [List.take_of_length_le (by omega)] at hno
    simp only [transeptref12_ranged.l0, if_neg c1]
    unfold Plain.rangR
    rw [show s.data.toList.contains 45 = false from by simpa using hno, Bool.false_and]
  | succ d ih =>
    intro k i hd hi hk hno
    obtain ⟨k, rfl⟩ : ∃ m, k = m + 1 := ⟨k - 1, by omega⟩
    have hli : i < s.data.toList.length := by omega
    have hb := bt_nat s i hli
    have hdr := drop_cons hli
    have htk := List.take_succ_eq_append_getElem hli
    have hsp := (List.take_append_drop i s.data.toList).symm
    have c1 : (i : Int) < (s.size : Int) := by omega
    have c2 : (0 : Int) ≤ (i : Int) := by omega
    have c3 : (i : Int) ≤ (s.size : Int) := by omega
    have c4 : (0 : Int) ≤ ((i + 1 : Nat) : Int) := by omega
    have c5 : ((i + 1 : Nat) : Int) ≤ (s.size : Int) := by omega
    have b5 : i + 1 ≤ 9223372036854775807 := by omega
    have hI := ih k (i + 1) (by omega) (by omega) (by omega)
    have he1 := mextract s 0 i
    have he2 := mextract s (i + 1) s.size
    rw [List.drop_zero, Nat.sub_zero] at he1
    have hrl : (s.data.toList.drop (i + 1)).length = s.size - (i + 1) := by rw [List.length_drop, hl]
    rw [List.take_of_length_le (by omega)] at he2
    have htl : (s.data.toList.take i).length = i := by rw [List.length_take]; omega
    generalize s.data.toList[i] = c at hb hdr htk
    rw [hdr] at hsp
    generalize hpre : s.data.toList.take i = pre at hno htk hsp he1 htl
    generalize hrst : s.data.toList.drop (i + 1) = rst at hsp he2 hrl
    have n1 := rnumber_f (txt pre) 1000000000 (by rw [Ext.txt_size]; unfold Big; omega) k (by omega)
    have n2 := rnumber_f (txt rst) 1000000000 (by rw [Ext.txt_size]; unfold Big; omega) k (by omega)
    rw [Ext.txt_data] at n1 n2
    have hz : rst.length = 0 ↔ ((i + 1 : Nat) : Int) = (s.size : Int) := by omega
    have w := PureS.wrap_one i b5
    by_cases hc : c = 45
    · subst hc
      have c6 : (((45 : UInt8).toNat : Nat) : Int) = 45 := rfl
      simp only [transeptref12_ranged.l0, if_pos c1, if_pos c2, hb, w, if_pos c6, if_pos c3, if_pos c4, if_pos c5, Int.toNat_natCast, he1, he2, n1, n2, Option.bind_some]
      unfold Plain.rangR
      rw [hsp, Plain.upTo_at 45 rst pre hno, Plain.past_at 45 rst pre hno, List.contains_iff_mem.2 (by simp), Bool.true_and]
      generalize Ext.numB pre 1000000000 = A
      generalize Ext.numB rst 1000000000 = B
      obtain ⟨a, one⟩ := A
      obtain ⟨b, two⟩ := B
      by_cases hend : ((i + 1 : Nat) : Int) = (s.size : Int)
      · have hr0 : rst = [] := List.length_eq_zero_iff.1 (hz.2 hend)
        rw [if_pos hend, hr0]
        cases one <;> rfl
      · have hr0 : rst ≠ [] := by
          intro e
          exact hend (hz.1 (by rw [e]; rfl))
        rw [if_neg hend, beq_eq_false_iff_ne.2 hr0]
        cases one <;> cases two <;> simp
    · have c6 : ¬ ((c.toNat : Nat) : Int) = 45 := by
        clear w n1 n2 hI hb
        intro h
        have h2 : c.toNat = (45 : UInt8).toNat := by
          have : (45 : UInt8).toNat = 45 := rfl
          omega
        exact hc (UInt8.toNat_inj.1 h2)
      have hno2 : (45 : UInt8) ∉ s.data.toList.take (i + 1) := by
        rw [htk]
        intro h
        rcases List.mem_append.1 h with h | h
        · exact hno h
        · exact hc (List.mem_singleton.1 h).symm
      simp only [transeptref12_ranged.l0, if_pos c1, if_pos c2, hb, w, if_neg c6]
      exact hI hno2
theorem ranged_f (s : ByteArray) (hs : s.size ≤ 140737488351300) (k : Nat) (hk : 200000000000000 < k) : transeptref12_ranged.f k s = some (Plain.rangB s.data.toList) := by
  obtain ⟨k, rfl⟩ : ∃ m, k = m + 1 := ⟨k - 1, by omega⟩
  have hl := len_eq s
  unfold transeptref12_ranged.f Plain.rangB
  by_cases h6 : (s.size : Int) < 6
  · have hp : Plain.pBytes.isPrefixOf s.data.toList = false := by
      cases e : Plain.pBytes.isPrefixOf s.data.toList
      · rfl
      · have := (List.isPrefixOf_iff_prefix.1 e).length_le
        rw [show Plain.pBytes.length = 6 from rfl] at this
        omega
    rw [if_pos h6, hp, Bool.false_and]
    simp only [transeptref12_ranged.j0, if_true]
  · have c1 : (6 : Int) ≤ (s.size : Int) := by omega
    have he := mextract s 0 6
    rw [List.drop_zero, Nat.sub_zero] at he
    have he2 := mextract s 6 s.size
    rw [List.take_of_length_le (by rw [List.length_drop]; omega)] at he2
    have hx := PureS.take_prefix Plain.pBytes s.data.toList (by show 6 ≤ _; omega)
    rw [show Plain.pBytes.length = 6 from rfl] at hx
    rw [if_neg h6, if_pos (by decide), if_pos c1, he, ftl, ← hx]
    cases hq : (s.data.toList.take 6 == Plain.pBytes)
    · have hne : (s.data.toList.take 6 != ([98, 121, 116, 101, 115, 61] : List UInt8)) = true := by
        have := beq_eq_false_iff_ne.1 hq
        exact bne_iff_ne.2 this
      rw [hne]
      simp only [transeptref12_ranged.j0, if_true, Bool.false_and]
    · have hne : (s.data.toList.take 6 != ([98, 121, 116, 101, 115, 61] : List UInt8)) = false := by
        have := beq_iff_eq.1 hq
        exact bne_eq_false_iff_eq.2 this
      have hz : (txt (s.data.toList.drop 6)).size ≤ 140737488351300 := by rw [Ext.txt_size, List.length_drop]; omega
      have hr := rang_l0 (txt (s.data.toList.drop 6)) hz (txt (s.data.toList.drop 6)).size k 0 rfl (Nat.zero_le _) (by omega) (by simp)
      rw [Ext.txt_data] at hr
      rw [hne]
      simp only [transeptref12_ranged.j0, if_pos c1, he2, Bool.true_and, Bool.false_eq_true, if_false]
      exact hr

/-! ### Header, Never, Reads, Hidden -/
theorem rkinds_f (v : List UInt8) (k : Nat) (hk : 3 < k) : transeptref12_among.f k ([(⟨#[97, 112, 112, 108, 105, 99, 97, 116, 105, 111, 110, 47, 120, 45, 119, 119, 119, 45, 102, 111, 114, 109, 45, 117, 114, 108, 101, 110, 99, 111, 100, 101, 100]⟩ : ByteArray), (⟨#[109, 117, 108, 116, 105, 112, 97, 114, 116, 47, 102, 111, 114, 109, 45, 100, 97, 116, 97]⟩ : ByteArray), (⟨#[116, 101, 120, 116, 47, 112, 108, 97, 105, 110]⟩ : ByteArray)] : List ByteArray) (essT v).1 = some (Plain.kinds.any (fun k => Plain.essence v == some k)) := by
  have h := among_f (Plain.kinds.map txt) (essT v).1 (by decide) k (by show 3 < k; omega)
  have e : idxI (Plain.kinds.map txt) (essT v).1 = Plain.kinds.any (fun k => Plain.essence v == some k) := Ext.kinds_at v
  rw [e] at h
  exact h
theorem rheader_f (a b : ByteArray) (ha : a.size ≤ 140737488351300) (hb : b.size ≤ 140737488351300) (k : Nat) (hk : 1000000000000000 < k) : transeptref12_Header.f k a b = some (Plain.hdr a.data.toList b.data.toList) := by
  obtain ⟨k, rfl⟩ : ∃ m, k = m + 1 := ⟨k - 1, by omega⟩
  have hl := len_eq b
  unfold transeptref12_Header.f Plain.hdr
  by_cases h128 : (b.size : Int) > 128
  · rw [if_pos h128, decide_eq_false (by omega), Bool.false_and]
  · rw [if_neg h128, decide_eq_true (by omega), Bool.true_and, frlower a (by unfold Big; omega)]
    simp only [Option.bind_some, ftl]
    have o1 := odd_f b hb (k + 1) (by omega)
    have o2 := odd_f b hb k (by omega)
    have o3 := plain_f b hb k (by omega)
    have o4 := ranged_f b hb k (by omega)
    have o5 := ress_f b (by omega) k (by omega)
    have o6 := rkinds_f b.data.toList k (by omega)
    unfold Plain.valB
    generalize Plain.lower a.data.toList = m
    by_cases q1 : m = Plain.nAccept
    · rw [if_pos (show m = [97, 99, 99, 101, 112, 116] from q1), if_pos q1, o1]
      rfl
    · rw [if_neg (show ¬ m = [97, 99, 99, 101, 112, 116] from q1), if_neg q1]
      by_cases q2 : m = Plain.nALang
      · have e2 : (m == ([97, 99, 99, 101, 112, 116, 45, 108, 97, 110, 103, 117, 97, 103, 101] : List UInt8)) = true := beq_iff_eq.2 q2
        rw [if_pos (show m = [97, 99, 99, 101, 112, 116, 45, 108, 97, 110, 103, 117, 97, 103, 101] from q2), if_pos q2, e2]
        simp only [transeptref12_Header.j0, if_true, o3, Option.bind_some]
      · rw [if_neg (show ¬ m = [97, 99, 99, 101, 112, 116, 45, 108, 97, 110, 103, 117, 97, 103, 101] from q2), if_neg q2]
        by_cases q3 : m = Plain.nCLang
        · have e3 : (m == ([99, 111, 110, 116, 101, 110, 116, 45, 108, 97, 110, 103, 117, 97, 103, 101] : List UInt8)) = true := beq_iff_eq.2 q3
          rw [if_pos q3, e3]
          simp only [transeptref12_Header.j0, if_true, o3, Option.bind_some]
        · have e3 : (m == ([99, 111, 110, 116, 101, 110, 116, 45, 108, 97, 110, 103, 117, 97, 103, 101] : List UInt8)) = false := beq_eq_false_iff_ne.2 q3
          rw [if_neg q3, e3]
          simp only [transeptref12_Header.j0, Bool.false_eq_true, if_false, ftl]
          by_cases q4 : m = Plain.nCType
          · rw [if_pos (show m = [99, 111, 110, 116, 101, 110, 116, 45, 116, 121, 112, 101] from q4), if_pos q4, o5]
            simp only [Option.bind_some, o2, o6]
            unfold Plain.contB
            cases b.data.toList.any Plain.oddB <;> rfl
          · rw [if_neg (show ¬ m = [99, 111, 110, 116, 101, 110, 116, 45, 116, 121, 112, 101] from q4), if_neg q4]
            by_cases q5 : m = Plain.nRange
            · rw [if_pos (show m = [114, 97, 110, 103, 101] from q5), if_pos q5, o4]
              rfl
            · rw [if_neg (show ¬ m = [114, 97, 110, 103, 101] from q5), if_neg q5]
end Go.Proofs.YtikhboebmmmopaaGreatDoor.PureZ
