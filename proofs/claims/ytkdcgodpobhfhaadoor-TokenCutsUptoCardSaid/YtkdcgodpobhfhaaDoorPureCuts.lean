/-
  THE PLAIN LAW of TokenCuts: what the printed law computes is true. Condition: a text of at most 1048576 bytes.
-/
import Derived.Test.YtkdcgodpobhfhaaDoorPureC
import Derived.Test.YtkdcgodpobhfhaaDoorFun5
namespace Go.Proofs.YtkdcgodpobhfhaaDoor.Pure
open Go.RowKit Go.Proofs.YtkdcgodpobhfhaaDoorW.PrintWords
open Go.Proofs.YtkdcgodpobhfhaaDoor.Ext (txt Big)
open Go.Proofs.YtkdcgodpobhfhaaDoor.Fun

theorem piece_len (l : List UInt8) : ∀ (st : Nat) (cur : List UInt8), ∀ x ∈ Plain.partsGo st cur l, x.length ≤ cur.length + l.length := by
  induction l with
  | nil =>
    intro st cur x hx
    simp only [Plain.partsGo, List.mem_singleton] at hx
    subst hx
    refine Nat.le_trans (Plain.trimP_length _ _) ?_
    simp
  | cons c r ih =>
    intro st cur x hx
    rw [Plain.partsGo] at hx
    split at hx
    · rcases List.mem_cons.1 hx with rfl | hx
      · refine Nat.le_trans (Plain.trimP_length _ _) ?_
        simp
      · have := ih 0 [] x hx
        simp only [List.length_nil, List.length_cons] at this ⊢
        omega
    · have := ih _ _ x hx
      simp only [List.length_cons] at this ⊢
      omega
theorem joinC_len (m : Nat) : ∀ (l : List (List UInt8)), (∀ x ∈ l, x.length ≤ m) → (Plain.joinC l).length ≤ l.length * (m + 1)
  | [], _ => by simp [Plain.joinC]
  | [x], h => by
    have := h x (by simp)
    simp only [Plain.joinC, List.length_cons, List.length_nil]
    omega
  | x :: y :: r, h => by
    have h1 := h x (by simp)
    have h2 := joinC_len m (y :: r) (fun z hz => h z (by simp [hz]))
    simp only [Plain.joinC, List.length_append, List.length_cons] at h2 ⊢
    rw [Nat.add_mul (r.length + 1) 1, Nat.one_mul]
    omega
theorem txt_append (a b : List UInt8) : txt a ++ txt b = txt (a ++ b) := by
  apply Ext.data_inj
  simp [Ext.txt_data]
theorem commas_cons (c : UInt8) (l : List UInt8) : Plain.commas (c :: l) = (if c == 44 then 1 else 0) + Plain.commas l := by
  unfold Plain.commas
  rw [List.filter_cons]
  split
  · simp; omega
  · simp

theorem cuts_l2 (s t : ByteArray) (ps : List ByteArray) (hs : s.size ≤ 1048576) (res : Option Bool) (d : Nat) : ∀ (k i n : Nat), s.size - i = d → i ≤ s.size → n ≤ i → d + 10000000000000 < k →
    (∀ k', 10000000000000 ≤ k' → (if (ps.length : Int) = ((n + Plain.commas (s.data.toList.drop i) + 1 : Nat) : Int) then ((token_Parts.f k' t).bind fun a => ((transeptref09_Same.f k' a ps).bind fun b => (some b))) else (some false)) = res) →
    transeptlaw09_TokenCuts.l2 k s true ps t (n : Int) (i : Int) = res := by
  induction d with
  | zero =>
    intro k i n hd hi hn hk hr
    obtain ⟨k, rfl⟩ : ∃ m, k = m + 1 := ⟨k - 1, by omega⟩
    simp only [transeptlaw09_TokenCuts.l2]
    rw [if_neg (by omega), if_pos trivial, wrap_in (by omega) (by omega)]
    have := hr k (by omega)
    rw [drop_end (by rw [len_eq]; omega)] at this
    exact this
  | succ d ih =>
    intro k i n hd hi hn hk hr
    obtain ⟨k, rfl⟩ : ∃ m, k = m + 1 := ⟨k - 1, by omega⟩
    have hl : i < s.data.toList.length := by rw [len_eq]; omega
    simp only [transeptlaw09_TokenCuts.l2]
    rw [if_pos (by omega), if_pos (by omega), bt_nat s i hl, wrap_in (i := (n : Int) + 1) (by omega) (by omega), wrap_in (by omega) (by omega), show ((i : Int) + 1) = ((i + 1 : Nat) : Int) from by omega, show ((n : Int) + 1) = ((n + 1 : Nat) : Int) from by omega]
    rw [drop_cons hl, commas_cons] at hr
    have e44 : ((s.data.toList[i].toNat : Int) = 44) ↔ (s.data.toList[i] == 44) = true := by
      rw [beq_iff_eq, ← UInt8.toNat_inj]
      show _ ↔ _ = 44
      omega
    by_cases h : (s.data.toList[i] == 44) = true
    · rw [if_pos (e44.2 h)]
      refine ih k (i + 1) (n + 1) (by omega) (by omega) (by omega) (by omega) (fun k' hk' => ?_)
      have := hr k' hk'
      rw [if_pos h] at this
      rw [show n + 1 + Plain.commas (List.drop (i + 1) s.data.toList) + 1 = n + (1 + Plain.commas (List.drop (i + 1) s.data.toList)) + 1 from by omega]
      exact this
    · rw [if_neg (fun e => h (e44.1 e))]
      refine ih k (i + 1) n (by omega) (by omega) (by omega) (by omega) (fun k' hk' => ?_)
      have := hr k' hk'
      rw [if_neg h, Nat.zero_add] at this
      exact this

theorem cuts_l1 (s : ByteArray) (pl : List (List UInt8)) (hm : ∀ x ∈ pl, x.length ≤ 1048576) (hl : pl.length ≤ 1048577) (res : Option Bool) (d : Nat) : ∀ (k i : Nat), pl.length - i = d → i ≤ pl.length → d + 20000000000000 < k →
    (∀ k', 20000000000000 ≤ k' → transeptlaw09_TokenCuts.l2 k' s true (pl.map txt) (txt (Plain.joinC pl)) 0 0 = res) →
    transeptlaw09_TokenCuts.l1 k s true (pl.map txt) (txt (Plain.joinC (pl.take i))) 0 (i : Int) = res := by
  induction d with
  | zero =>
    intro k i hd hi hk hr
    obtain ⟨k, rfl⟩ : ∃ m, k = m + 1 := ⟨k - 1, by omega⟩
    simp only [transeptlaw09_TokenCuts.l1, List.length_map]
    rw [if_neg (by omega), List.take_of_length_le (by omega)]
    exact hr k (by omega)
  | succ d ih =>
    intro k i hd hi hk hr
    obtain ⟨k, rfl⟩ : ∃ m, k = m + 1 := ⟨k - 1, by omega⟩
    have hli : i < pl.length := by omega
    have hlm : i < (pl.map txt).length := by simpa using hli
    have hjl := joinC_len 1048576 (pl.take i) (fun x hx => hm x (List.mem_of_mem_take hx))
    rw [List.length_take] at hjl
    have hjl2 : (Plain.joinC (pl.take i)).length ≤ 1048577 * 1048577 := Nat.le_trans hjl (Nat.mul_le_mul (by omega) (Nat.le_refl _))
    have hx := hm pl[i] (List.getElem_mem hli)
    have hstep : pl.take (i + 1) = pl.take i ++ [pl[i]] := List.take_succ_eq_append_getElem hli
    have hrd : rdOf ByteArray.empty (pl.map txt) (i : Int) = txt pl[i] := by rw [rd_nat _ i hlm, List.getElem_map]
    simp only [transeptlaw09_TokenCuts.l1, List.length_map]
    rw [if_pos (by omega), hrd]
    by_cases h0 : 0 < i
    · have hne' : pl.take i ≠ [] := by
        intro h
        have := congrArg List.length h
        rw [List.length_take] at this
        simp only [List.length_nil] at this
        omega
      have e1 : txt (Plain.joinC (pl.take i)) ++ (⟨#[44]⟩ : ByteArray) ++ txt pl[i] = txt (Plain.joinC (pl.take (i + 1))) := by
        rw [show (⟨#[44]⟩ : ByteArray) = txt [44] from rfl, txt_append, txt_append, hstep, Plain.joinC_snoc _ _ hne']
        simp
      rw [if_pos (by omega), if_pos (by rw [Ext.txt_size]; omega), if_pos (by omega), if_pos (by rw [show (⟨#[44]⟩ : ByteArray) = txt [44] from rfl, txt_append, Ext.txt_size, Ext.txt_size, List.length_append, List.length_singleton]; omega), e1, wrap_in (by omega) (by omega), show ((i : Int) + 1) = ((i + 1 : Nat) : Int) from by omega]
      exact ih k (i + 1) (by omega) (by omega) (by omega) hr
    · obtain rfl : i = 0 := by omega
      have e1 : txt (Plain.joinC (pl.take 0)) ++ txt pl[0] = txt (Plain.joinC (pl.take (0 + 1))) := by
        rw [hstep, txt_append, List.take_zero]
        rfl
      rw [if_neg (by omega), if_pos (by omega), if_pos (by rw [Ext.txt_size, Ext.txt_size]; omega), e1, wrap_in (by omega) (by omega)]
      exact ih k 1 (by omega) (by omega) (by omega) hr

theorem cuts_end (s : ByteArray) (hs : s.size ≤ 1048576) (hq : ∀ c ∈ s.data.toList, (c == 34) = false) (k : Nat) (hk : 40000000000000 < k) :
    ((token_Parts.f k s).bind fun t => (transeptlaw09_TokenCuts.l1 k s true t (⟨#[]⟩ : ByteArray) 0 0)) = some true := by
  have hpl : (Plain.parts s.data.toList).length ≤ 1048577 := by
    have := partsGo_len 0 [] s.data.toList
    rw [len_eq] at this
    unfold Plain.parts
    omega
  have hm : ∀ x ∈ Plain.parts s.data.toList, x.length ≤ 1048576 := by
    intro x hx
    have := piece_len _ _ _ x hx
    rw [len_eq] at this
    simp only [List.length_nil] at this
    omega
  rw [parts_f s (by omega) (by omega) k (by omega)]
  simp only [Option.bind_some]
  refine cuts_l1 s (Plain.parts s.data.toList) hm hpl (some true) _ k 0 rfl (Nat.zero_le _) (by omega) (fun k1 hk1 => ?_)
  have hjl := joinC_len 1048576 _ hm
  have hjl2 : (Plain.joinC (Plain.parts s.data.toList)).length ≤ 1048577 * 1048577 := Nat.le_trans hjl (Nat.mul_le_mul hpl (Nat.le_refl _))
  refine cuts_l2 s _ _ hs (some true) s.size k1 0 0 (by omega) (Nat.zero_le _) (Nat.le_refl _) (by omega) (fun k2 hk2 => ?_)
  rw [List.drop_zero, List.length_map, if_pos (by rw [Plain.parts_count hq]; omega), parts_f _ (by rw [Ext.txt_data, Plain.parts_again hq]; omega) (by rw [Ext.txt_size]; omega) k2 (by rw [Ext.txt_size]; omega), Ext.txt_data, Plain.parts_again hq]
  simp only [Option.bind_some]
  rw [same_f _ (by rw [List.length_map]; omega) k2 (by rw [List.length_map]; omega)]
  rfl

theorem cuts_l0 (s : ByteArray) (hs : s.size ≤ 1048576) (d : Nat) : ∀ (k i : Nat), s.size - i = d → i ≤ s.size → (∀ c ∈ s.data.toList.take i, (c == 34) = false) → d + 50000000000000 < k →
    transeptlaw09_TokenCuts.l0 k s true (i : Int) = some true := by
  induction d with
  | zero =>
    intro k i hd hi hq hk
    obtain ⟨k, rfl⟩ : ∃ m, k = m + 1 := ⟨k - 1, by omega⟩
    simp only [transeptlaw09_TokenCuts.l0]
    rw [if_neg (by omega)]
    rw [List.take_of_length_le (by rw [len_eq]; omega)] at hq
    exact cuts_end s hs hq k (by omega)
  | succ d ih =>
    intro k i hd hi hq hk
    obtain ⟨k, rfl⟩ : ∃ m, k = m + 1 := ⟨k - 1, by omega⟩
    have hl : i < s.data.toList.length := by rw [len_eq]; omega
    simp only [transeptlaw09_TokenCuts.l0]
    rw [if_pos (by omega), if_pos (by omega), bt_nat s i hl, wrap_in (by omega) (by omega), show ((i : Int) + 1) = ((i + 1 : Nat) : Int) from by omega]
    by_cases h : (s.data.toList[i].toNat : Int) = 34
    · rw [if_pos h]
    · rw [if_neg h]
      refine ih k (i + 1) (by omega) (by omega) (fun c hc => ?_) (by omega)
      rw [List.take_succ_eq_append_getElem hl] at hc
      rcases List.mem_append.1 hc with hc | hc
      · exact hq c hc
      · obtain rfl := List.mem_singleton.1 hc
        rw [beq_eq_false_iff_ne]
        intro e
        rw [e] at h
        exact h rfl

theorem TokenCuts (s : ByteArray) (hs : s.size ≤ 1048576) : ∃ k, transeptlaw09_TokenCuts.f k s = some true := by
  obtain ⟨K, hK⟩ : ∃ K : Nat, 60000000000000 ≤ K := ⟨60000000000000, Nat.le_refl _⟩
  refine ⟨K, ?_⟩
  unfold transeptlaw09_TokenCuts.f
  rw [shown_f _ (by omega)]
  simp only [Option.bind_some]
  exact cuts_l0 s hs s.size _ 0 (by omega) (Nat.zero_le _) (by simp) (by omega)
end Go.Proofs.YtkdcgodpobhfhaaDoor.Pure
