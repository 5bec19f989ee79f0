/-
  PLAIN LAWS: what the printed functions of layer 9 (Trim, Value, Method, quoted, Parts; of the library: Index, Contains) come to, in the words of the Plain text. Conditions: rounds enough; sizes that an int holds.
-/
import Derived.Test.YtaabfmpoodjhjaaDoorPureAxB
namespace Go.Proofs.YtaabfmpoodjhjaaDoor.Fun
open Go.RowKit Go.Proofs.YtaabfmpoodjhjaaDoorW.PrintWords
open Go.Proofs.YtaabfmpoodjhjaaDoor.Ext (txt Big)


/-! ### Index, Contains -/
def idxI (l : List ByteArray) (x : ByteArray) : Bool := l.any fun y => decide (x = y)
theorem idxI_cons (y : ByteArray) (l : List ByteArray) (x : ByteArray) : idxI (y :: l) x = (decide (x = y) || idxI l x) := rfl
theorem rd_nat (l : List ByteArray) (i : Nat) (h : i < l.length) : rdOf ByteArray.empty l (i : Int) = l[i] := by
  unfold rdOf
  rw [Int.toNat_natCast, List.getD, List.getElem?_eq_getElem h]
  rfl
theorem eq_list (a b : ByteArray) : (a.toList = b.toList) ↔ a = b := by
  rw [list_eq, list_eq]
  exact ⟨Ext.data_inj, fun h => by rw [h]⟩
theorem index_l0 (l : List ByteArray) (x : ByteArray) (hl : l.length ≤ 1000000000000000000) (d : Nat) : ∀ (k i : Nat), l.length - i = d → i ≤ l.length → d < k →
    ∃ n : Int, slices_Index_string_string.l0 k l x (l.length : Int) (i : Int) = some n ∧ decide (n ≥ 0) = idxI (l.drop i) x := by
  induction d with
  | zero =>
    intro k i hd hi hk
    obtain ⟨k, rfl⟩ : ∃ m, k = m + 1 := ⟨k - 1, by omega⟩
    refine ⟨-1, ?_, ?_⟩
    · simp only [slices_Index_string_string.l0]
      rw [if_neg (by omega)]
    · rw [drop_end (by omega)]
      rfl
  | succ d ih =>
    intro k i hd hi hk
    obtain ⟨k, rfl⟩ : ∃ m, k = m + 1 := ⟨k - 1, by omega⟩
    have hli : i < l.length := by omega
    simp only [slices_Index_string_string.l0]
    rw [if_pos (by omega), if_pos (by omega), if_pos (by omega), rd_nat l i hli, drop_cons hli]
    by_cases h : x.toList = l[i].toList
    · rw [if_pos h]
      refine ⟨(i : Int), rfl, ?_⟩
      rw [decide_eq_true (by omega), idxI_cons, decide_eq_true ((eq_list _ _).1 h)]
      rfl
    · rw [if_neg h, wrap_in (by omega) (by omega), show ((i : Int) + 1) = ((i + 1 : Nat) : Int) from by omega]
      obtain ⟨n, h1, h2⟩ := ih k (i + 1) (by omega) (by omega) (by omega)
      refine ⟨n, h1, ?_⟩
      rw [h2]
      have hne : ¬ x = l[i] := fun e => h ((eq_list _ _).2 e)
      rw [idxI_cons, decide_eq_false hne]
      rfl
theorem contains_f (l : List ByteArray) (x : ByteArray) (hl : l.length ≤ 1000000000000000000) (k : Nat) (hk : l.length < k) : slices_Contains_string_string.f k l x = some (idxI l x) := by
  obtain ⟨n, h1, h2⟩ := index_l0 l x hl l.length k 0 (by omega) (by omega) hk
  unfold slices_Contains_string_string.f slices_Index_string_string.f
  rw [show (0 : Int) = ((0 : Nat) : Int) from rfl, h1]
  simp only [Option.bind_some]
  rw [List.drop_zero] at h2
  rw [show ((0 : Nat) : Int) = 0 from rfl, h2]
theorem idx_lists (l : List (List UInt8)) (x : List UInt8) : idxI (l.map txt) (txt x) = l.contains x := by
  rw [Bool.eq_iff_iff]
  simp only [idxI, List.any_eq_true, List.mem_map, decide_eq_true_eq, List.contains_iff_mem]
  constructor
  · rintro ⟨y, ⟨z, hz, rfl⟩, h⟩
    rw [Ext.txt_inj h]; exact hz
  · intro h
    exact ⟨txt x, ⟨x, h, rfl⟩, rfl⟩

/-! ### Method -/
theorem method_f (s : ByteArray) (hs : s.size ≤ Big) (k : Nat) (hk : 6 < k) : token_Method.f k s = some (txt (Plain.method s.data.toList)) := by
  unfold token_Method.f Ext.token_upper.f
  rw [if_pos hs]
  simp only [Option.bind_some]
  have := idx_lists Plain.methods (Plain.upper s.data.toList)
  rw [show ([(⟨#[68, 69, 76, 69, 84, 69]⟩ : ByteArray), (⟨#[71, 69, 84]⟩ : ByteArray), (⟨#[72, 69, 65, 68]⟩ : ByteArray), (⟨#[79, 80, 84, 73, 79, 78, 83]⟩ : ByteArray), (⟨#[80, 79, 83, 84]⟩ : ByteArray), (⟨#[80, 85, 84]⟩ : ByteArray)] : List ByteArray) = Plain.methods.map txt from rfl, contains_f (Plain.methods.map txt) _ (by decide) k (by show 6 < k; exact hk), this]
  simp only [Option.bind_some]
  unfold Plain.method
  split
  · rfl
  · rfl

/-! ### quoted, Parts -/
/-- how many bytes a quoted text has, from inside: the rest's length where the quotes have no end -/
def inQ : Nat → List UInt8 → Nat
  | _, [] => 0
  | 1, c :: r => if c == 92 then 1 + inQ 2 r else if c == 34 then 1 else 1 + inQ 1 r
  | _, _ :: r => 1 + inQ 1 r
theorem inQ_le (st : Nat) (l : List UInt8) : inQ st l ≤ l.length := by
  induction l generalizing st with
  | nil => cases st <;> simp [inQ]
  | cons c r ih =>
    have h1 := ih 1
    have h2 := ih 2
    match st with
    | 0 => simp only [inQ, List.length_cons]; omega
    | 1 =>
      simp only [inQ, List.length_cons]
      split
      · omega
      · split <;> omega
    | n + 2 => simp only [inQ, List.length_cons]; omega
theorem quoted_l0 (s : ByteArray) (hs : s.size ≤ 4611686018427387904) (d : Nat) : ∀ (k i : Nat), s.size - i ≤ d → i ≤ s.size + 1 → d + 2 < k →
    token_quoted.l0 k s (i : Int) = some (((if i ≤ s.size then i + inQ 1 (s.data.toList.drop i) else s.size : Nat) : Int)) := by
  induction d with
  | zero =>
    intro k i hd hi hk
    obtain ⟨k, rfl⟩ : ∃ m, k = m + 1 := ⟨k - 1, by omega⟩
    simp only [token_quoted.l0]
    rw [if_neg (by omega)]
    by_cases h : i ≤ s.size
    · rw [if_pos h, drop_end (by rw [len_eq]; omega)]
      obtain rfl : i = s.size := by omega
      rfl
    · rw [if_neg h]
  | succ d ih =>
    intro k i hd hi hk
    obtain ⟨k, rfl⟩ : ∃ m, k = m + 1 := ⟨k - 1, by omega⟩
    by_cases hlt : i < s.size
    · have hl : i < s.data.toList.length := by rw [len_eq]; omega
      simp only [token_quoted.l0]
      have hr : (if i ≤ s.size then i + inQ 1 (s.data.toList.drop i) else s.size) = i + inQ 1 (s.data.toList.drop i) := if_pos (by omega)
      rw [if_pos (by omega), if_pos (by omega), bt_nat s i hl, hr, drop_cons hl]
      simp only [inQ]
      have e92 : ((s.data.toList[i].toNat : Int) = 92) ↔ (s.data.toList[i] == 92) = true := by
        rw [beq_iff_eq, ← UInt8.toNat_inj]
        show _ ↔ _ = 92
        omega
      have e34 : ((s.data.toList[i].toNat : Int) = 34) ↔ (s.data.toList[i] == 34) = true := by
        rw [beq_iff_eq, ← UInt8.toNat_inj]
        show _ ↔ _ = 34
        omega
      by_cases h92 : (s.data.toList[i] == 92) = true
      · rw [if_pos (e92.2 h92), if_pos h92, wrap_in (i := (i : Int) + 1) (by omega) (by omega), wrap_in (by omega) (by omega), show ((i : Int) + 1 + 1) = ((i + 1 + 1 : Nat) : Int) from by omega, ih k (i + 1 + 1) (by omega) (by omega) (by omega)]
        by_cases h2 : i + 1 + 1 ≤ s.size
        · rw [if_pos h2]
          have hl1 : i + 1 < s.data.toList.length := by rw [len_eq]; omega
          rw [drop_cons hl1]
          simp only [inQ]
          congr 2
          omega
        · rw [if_neg h2, drop_end (by rw [len_eq]; omega)]
          simp only [inQ]
          congr 2
          omega
      · rw [if_neg (fun h => h92 (e92.1 h)), if_neg h92]
        by_cases h34 : (s.data.toList[i] == 34) = true
        · rw [if_pos (e34.2 h34), if_pos h34, wrap_in (by omega) (by omega)]
          rfl
        · rw [if_neg (fun h => h34 (e34.1 h)), if_neg h34, wrap_in (by omega) (by omega), show ((i : Int) + 1) = ((i + 1 : Nat) : Int) from by omega, ih k (i + 1) (by omega) (by omega) (by omega), if_pos (by omega)]
          congr 2
          omega
    · simp only [token_quoted.l0]
      rw [if_neg (by omega)]
      by_cases h : i ≤ s.size
      · rw [if_pos h, drop_end (by rw [len_eq]; omega)]
        obtain rfl : i = s.size := by omega
        rfl
      · rw [if_neg h]
theorem quoted_f (s : ByteArray) (c : UInt8) (r : List UInt8) (hc : s.data.toList = c :: r) (hs : s.size ≤ 4611686018427387904) (k : Nat) (hk : s.size + 2 < k) : token_quoted.f k s = some ((1 + inQ 1 r : Nat) : Int) := by
  have h1 : s.size = r.length + 1 := by rw [← len_eq, hc]; rfl
  have := quoted_l0 s hs s.size k 1 (by omega) (by omega) hk
  unfold token_quoted.f
  rw [show (1 : Int) = ((1 : Nat) : Int) from rfl, this, if_pos (by omega), hc]
  rfl
/-- the machine goes through what is quoted -/
theorem parts_quote (st : Nat) (hst : st = 1 ∨ st = 2) (r : List UInt8) : ∀ cur, ∃ st', Plain.partsGo st cur r = Plain.partsGo st' ((r.take (inQ st r)).reverse ++ cur) (r.drop (inQ st r)) ∧ (st' = 0 ∨ r.drop (inQ st r) = []) := by
  induction r generalizing st with
  | nil => intro cur; exact ⟨st, by simp, .inr (by simp)⟩
  | cons c r ih =>
    intro cur
    rcases hst with rfl | rfl
    · rw [Plain.partsGo, if_neg (by simp)]
      simp only [inQ, Plain.next]
      by_cases h92 : (c == 92) = true
      · obtain ⟨st', h1, h2⟩ := ih 2 (.inr rfl) (c :: cur)
        refine ⟨st', ?_, ?_⟩
        · simp only [h92, if_true]
          rw [show (1 + inQ 2 r) = inQ 2 r + 1 from by omega]
          simpa using h1
        · simp only [h92, if_true]
          rw [show (1 + inQ 2 r) = inQ 2 r + 1 from by omega]
          simpa using h2
      · by_cases h34 : (c == 34) = true
        · refine ⟨0, ?_, .inl rfl⟩
          simp [h92, h34]
        · obtain ⟨st', h1, h2⟩ := ih 1 (.inl rfl) (c :: cur)
          refine ⟨st', ?_, ?_⟩
          · simp only [h92, h34, Bool.false_eq_true, if_false]
            rw [show (1 + inQ 1 r) = inQ 1 r + 1 from by omega]
            simpa using h1
          · simp only [h92, h34, Bool.false_eq_true, if_false]
            rw [show (1 + inQ 1 r) = inQ 1 r + 1 from by omega]
            simpa using h2
    · rw [Plain.partsGo, if_neg (by simp)]
      obtain ⟨st', h1, h2⟩ := ih 1 (.inl rfl) (c :: cur)
      refine ⟨st', ?_, ?_⟩
      · simp only [inQ, Plain.next]
        rw [show (1 + inQ 1 r) = inQ 1 r + 1 from by omega]
        simpa using h1
      · simp only [inQ]
        rw [show (1 + inQ 1 r) = inQ 1 r + 1 from by omega]
        simpa using h2
theorem partsGo_len (st : Nat) (cur l : List UInt8) : (Plain.partsGo st cur l).length ≤ l.length + 1 := by
  induction l generalizing st cur with
  | nil => simp [Plain.partsGo]
  | cons c r ih =>
    rw [Plain.partsGo]
    split
    · simp only [List.length_cons]
      have := ih 0 []
      omega
    · have := ih (Plain.next st c) (c :: cur)
      simp only [List.length_cons]
      omega
theorem parts_l0 (s : ByteArray) (hs : s.size ≤ 4611686018427387904) (d : Nat) : ∀ (k i j : Nat) (acc : List ByteArray), s.size - i ≤ d → j ≤ i → i ≤ s.size → d + s.size + 4 < k →
    acc.length + (Plain.partsGo 0 (((s.data.toList.drop j).take (i - j)).reverse) (s.data.toList.drop i)).length ≤ 8796093022208 →
    token_Parts.l0 k s acc (j : Int) (i : Int) = some (acc ++ (Plain.partsGo 0 (((s.data.toList.drop j).take (i - j)).reverse) (s.data.toList.drop i)).map txt) := by
  have stop : ∀ (k i j : Nat) (acc : List ByteArray), j ≤ i → i = s.size → 0 < k → acc.length < 8796093022208 →
      token_Parts.l0 k s acc (j : Int) (i : Int) = some (acc ++ (Plain.partsGo 0 (((s.data.toList.drop j).take (i - j)).reverse) (s.data.toList.drop i)).map txt) := by
    intro k i j acc hj hi hk ha
    obtain ⟨k, rfl⟩ : ∃ m, k = m + 1 := ⟨k - 1, by omega⟩
    subst hi
    simp only [token_Parts.l0]
    rw [if_neg (by omega), if_pos (by omega), if_pos (by omega), Int.toNat_natCast, extract_list, Ext.trim_tabs _ (by rw [Ext.txt_size, List.length_take, List.length_drop, len_eq]; show _ ≤ 9223372036854775807; omega)]
    simp only [Option.bind_some]
    rw [if_pos ha, drop_end (i := s.size) (by rw [len_eq]; exact Nat.le_refl _)]
    simp [Plain.partsGo, Ext.txt_data]
  induction d with
  | zero =>
    intro k i j acc hd hj hi hk hacc
    refine stop k i j acc hj (by omega) (by omega) ?_
    have : 0 < (Plain.partsGo 0 (((s.data.toList.drop j).take (i - j)).reverse) (s.data.toList.drop i)).length := List.length_pos_iff.2 (Plain.partsGo_ne _ _ _)
    omega
  | succ d ih =>
    intro k i j acc hd hj hi hk hacc
    have hpos : 0 < (Plain.partsGo 0 (((s.data.toList.drop j).take (i - j)).reverse) (s.data.toList.drop i)).length := List.length_pos_iff.2 (Plain.partsGo_ne _ _ _)
    have hal : acc.length < 8796093022208 := by omega
    by_cases hlt : i < s.size
    · obtain ⟨k, rfl⟩ : ∃ m, k = m + 1 := ⟨k - 1, by omega⟩
      have hl : i < s.data.toList.length := by rw [len_eq]; omega
      have hcur : ((s.data.toList.drop j).take (i + 1 - j)).reverse = s.data.toList[i] :: ((s.data.toList.drop j).take (i - j)).reverse := by
        rw [show i + 1 - j = (i - j) + 1 from by omega, List.take_succ_eq_append_getElem (by rw [List.length_drop, len_eq]; omega), List.reverse_append, List.getElem_drop]
        simp only [List.reverse_singleton, List.singleton_append]
        congr 2
        omega
      have e34 : ((s.data.toList[i].toNat : Int) = 34) ↔ (s.data.toList[i] == 34) = true := by
        rw [beq_iff_eq, ← UInt8.toNat_inj]
        show _ ↔ _ = 34
        omega
      have e44 : ((s.data.toList[i].toNat : Int) = 44) ↔ (s.data.toList[i] == 44) = true := by
        rw [beq_iff_eq, ← UInt8.toNat_inj]
        show _ ↔ _ = 44
        omega
      simp only [token_Parts.l0]
      rw [if_pos (by omega), if_pos (by omega), bt_nat s i hl]
      rw [drop_cons hl] at hacc ⊢
      by_cases h34 : (s.data.toList[i] == 34) = true
      · have h44 : ¬ (s.data.toList[i] == 44) = true := by
          intro h
          rw [beq_iff_eq] at h h34
          rw [h] at h34
          exact absurd h34 (by decide)
        have hst : Plain.partsGo 0 (((s.data.toList.drop j).take (i - j)).reverse) (s.data.toList[i] :: s.data.toList.drop (i + 1)) = Plain.partsGo (Plain.next 0 s.data.toList[i]) (s.data.toList[i] :: ((s.data.toList.drop j).take (i - j)).reverse) (s.data.toList.drop (i + 1)) := by
          rw [Plain.partsGo, if_neg (fun h => h44 h.2)]
        rw [hst] at hacc ⊢
        rw [if_pos (e34.2 h34), if_pos (by omega), Int.toNat_natCast, extract_list, List.take_of_length_le (by rw [List.length_drop, len_eq]; exact Nat.le_refl _)]
        have hsz : (txt (s.data.toList.drop i)).size = s.size - i := by rw [Ext.txt_size, List.length_drop, len_eq]
        rw [quoted_f _ s.data.toList[i] (s.data.toList.drop (i + 1)) (by rw [Ext.txt_data]; exact drop_cons hl) (by omega) k (by omega)]
        simp only [Option.bind_some]
        have hn : Plain.next 0 s.data.toList[i] = 1 := by unfold Plain.next; rw [if_pos rfl, if_pos h34]
        rw [hn] at hacc ⊢
        obtain ⟨st', h1, h2⟩ := parts_quote 1 (.inl rfl) (s.data.toList.drop (i + 1)) (s.data.toList[i] :: ((s.data.toList.drop j).take (i - j)).reverse)
        have hq := inQ_le 1 (s.data.toList.drop (i + 1))
        rw [List.length_drop, len_eq] at hq
        generalize hqq : inQ 1 (s.data.toList.drop (i + 1)) = q at *
        rw [wrap_in (by omega) (by omega), show ((i : Int) + ((1 + q : Nat) : Int)) = ((i + 1 + q : Nat) : Int) from by omega]
        rw [h1] at hacc ⊢
        have hcur2 : ((s.data.toList.drop (i + 1)).take q).reverse ++ s.data.toList[i] :: ((s.data.toList.drop j).take (i - j)).reverse = ((s.data.toList.drop j).take (i + 1 + q - j)).reverse := by
          rw [show i + 1 + q - j = (i + 1 - j) + q from by omega, List.take_add, List.reverse_append, List.drop_drop, hcur]
          congr 3
          congr 1
          omega
        rw [hcur2, List.drop_drop] at hacc ⊢
        rcases h2 with rfl | h2
        · exact ih k (i + 1 + q) j acc (by omega) (by omega) (by omega) (by omega) hacc
        · rw [List.drop_drop] at h2
          have hend : i + 1 + q = s.size := by
            have := List.drop_eq_nil_iff.1 h2
            rw [len_eq] at this
            omega
          rw [stop k (i + 1 + q) j acc (by omega) hend (by omega) hal, h2]
          simp [Plain.partsGo]
      · rw [if_neg (fun h => h34 (e34.1 h))]
        by_cases h44 : (s.data.toList[i] == 44) = true
        · have hst : Plain.partsGo 0 (((s.data.toList.drop j).take (i - j)).reverse) (s.data.toList[i] :: s.data.toList.drop (i + 1)) = Plain.trimP Plain.isTab ((s.data.toList.drop j).take (i - j)).reverse.reverse :: Plain.partsGo 0 [] (s.data.toList.drop (i + 1)) := by
            rw [Plain.partsGo, if_pos ⟨rfl, h44⟩]
          rw [hst] at hacc ⊢
          rw [if_pos (e44.2 h44), if_pos (by omega), if_pos (by omega), if_pos (by omega), Int.toNat_natCast, Int.toNat_natCast, extract_list, Ext.trim_tabs _ (by rw [Ext.txt_size, List.length_take, List.length_drop, len_eq]; show _ ≤ 9223372036854775807; omega)]
          simp only [Option.bind_some]
          simp only [List.length_cons] at hacc
          rw [if_pos (by omega), wrap_in (by omega) (by omega), show ((i : Int) + 1) = ((i + 1 : Nat) : Int) from by omega]
          have := ih k (i + 1) (i + 1) (acc ++ [txt (Plain.trimP Plain.isTab (txt ((s.data.toList.drop j).take (i - j))).data.toList)]) (by omega) (Nat.le_refl _) (by omega) (by omega) (by
            rw [Nat.sub_self, List.take_zero, List.reverse_nil, List.length_append]
            simp only [List.length_cons, List.length_nil]
            omega)
          rw [this, Nat.sub_self, List.take_zero, List.reverse_nil, Ext.txt_data]
          simp
        · have hst : Plain.partsGo 0 (((s.data.toList.drop j).take (i - j)).reverse) (s.data.toList[i] :: s.data.toList.drop (i + 1)) = Plain.partsGo (Plain.next 0 s.data.toList[i]) (s.data.toList[i] :: ((s.data.toList.drop j).take (i - j)).reverse) (s.data.toList.drop (i + 1)) := by
            rw [Plain.partsGo, if_neg (fun h => h44 h.2)]
          rw [hst] at hacc ⊢
          rw [if_neg (fun h => h44 (e44.1 h)), wrap_in (by omega) (by omega), show ((i : Int) + 1) = ((i + 1 : Nat) : Int) from by omega]
          have hn : Plain.next 0 s.data.toList[i] = 0 := by unfold Plain.next; rw [if_pos rfl, if_neg h34]
          rw [hn, ← hcur] at hacc ⊢
          exact ih k (i + 1) j acc (by omega) (by omega) (by omega) (by omega) hacc
    · exact stop k i j acc hj (by omega) (by omega) hal
theorem parts_f (s : ByteArray) (hs : (Plain.parts s.data.toList).length ≤ 8796093022208) (hz : s.size ≤ 4611686018427387904) (k : Nat) (hk : s.size + s.size + 4 < k) : token_Parts.f k s = some ((Plain.parts s.data.toList).map txt) := by
  have := parts_l0 s hz s.size k 0 0 [] (by omega) (by omega) (by omega) hk (by simpa [Plain.parts] using hs)
  unfold token_Parts.f
  rw [show (0 : Int) = ((0 : Nat) : Int) from rfl, this]
  simp [Plain.parts]
end Go.Proofs.YtaabfmpoodjhjaaDoor.Fun
