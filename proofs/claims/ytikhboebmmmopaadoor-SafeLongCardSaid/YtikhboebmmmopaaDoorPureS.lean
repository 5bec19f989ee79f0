/-
  PLAIN LAWS: what the printed functions of layer 12 (Header, Method, Never, Reads, Hidden, Names, Unsafe; the statements' own in) come to. Conditions: rounds enough; sizes as told.
-/
import Derived.Test.YtikhboebmmmopaaDoorFun
namespace Go.Proofs.YtikhboebmmmopaaDoor.PureS
open Go.RowKit Go.Proofs.YtikhboebmmmopaaDoorW.PrintWords
open Go.Proofs.YtikhboebmmmopaaDoor.Ext (txt Big)
open Go.Proofs.YtikhboebmmmopaaDoor.Fun

theorem wrap_in {i : Int} (h0 : -9223372036854775808 ≤ i) (h1 : i ≤ 9223372036854775807) : wrap64 i = i := by
  unfold wrap64
  omega
theorem len_eq (s : ByteArray) : s.data.toList.length = s.size := (Lib.size_eq s).symm
theorem list_eq (s : ByteArray) : s.toList = s.data.toList := Lib.toList_data s
theorem drop_cons {α : Type} {l : List α} {i : Nat} (h : i < l.length) : l.drop i = l[i] :: l.drop (i + 1) := List.drop_eq_getElem_cons h
theorem drop_end {α : Type} {l : List α} {i : Nat} (h : l.length ≤ i) : l.drop i = [] := List.drop_eq_nil_of_le h
theorem rd_F (l : List S30) (i : Nat) (h : i < l.length) : rd_T30 l (i : Int) = l[i] := by
  unfold rd_T30
  rw [Int.toNat_natCast, List.getD, List.getElem?_eq_getElem h]
  rfl
theorem rd_V (l : List ByteArray) (i : Nat) (h : i < l.length) : rdOf ByteArray.empty l (i : Int) = l[i] := by
  unfold rdOf
  rw [Int.toNat_natCast, List.getD, List.getElem?_eq_getElem h]
  rfl
theorem eq_list (a b : ByteArray) : (a.toList = b.toList) ↔ a = b := by
  rw [list_eq, list_eq]
  exact ⟨Ext.data_inj, fun h => by rw [h]⟩

/-! ### Header, Lower -/
theorem header_f (a b : ByteArray) (ha : a.size ≤ 1152921504606846976) (hb : b.size ≤ 1152921504606846976) : Ext.safe_Header.f a b = some (Plain.hdr a.data.toList b.data.toList) := by
  unfold Ext.safe_Header.f
  rw [if_pos ⟨by omega, hb⟩]
theorem lower_f (s : ByteArray) (hs : s.size ≤ 1152921504606846976) : Ext.token_Lower.f s = some (txt (Plain.lower s.data.toList)) := by
  unfold Ext.token_Lower.f
  rw [if_pos (by unfold Big; omega)]

/-! ### Index, Contains, Method -/
def idxI (l : List ByteArray) (x : ByteArray) : Bool := l.any fun y => decide (x = y)
theorem idxI_cons (y : ByteArray) (l : List ByteArray) (x : ByteArray) : idxI (y :: l) x = (decide (x = y) || idxI l x) := rfl
theorem index_l0 (l : List ByteArray) (x : ByteArray) (hl : l.length ≤ 1000000000000000000) (d : Nat) : ∀ (k i : Nat), l.length - i = d → i ≤ l.length → d < k →
    ∃ n : Int, slices_Index_string_string.l0 k l x (l.length : Int) (i : Int) = some n ∧ decide (n ≥ 0) = idxI (l.drop i) x := by
  induction d with
  | zero =>
    intro k i hd hi hk
    obtain ⟨k, rfl⟩ : ∃ m, k = m + 1 := ⟨k - 1, by omega⟩
    refine ⟨-1, ?_, ?_⟩
    · simp only [slices_Index_string_string.l0]
      rw [if_neg (by omega)]
    · rw [drop_end (by omega)]
      rfl
  | succ d ih =>
    intro k i hd hi hk
    obtain ⟨k, rfl⟩ : ∃ m, k = m + 1 := ⟨k - 1, by omega⟩
    have hli : i < l.length := by omega
    simp only [slices_Index_string_string.l0]
    rw [if_pos (by omega), if_pos (by omega), if_pos (by omega), rd_V l i hli, drop_cons hli]
    by_cases h : x.toList = l[i].toList
    · rw [if_pos h]
      refine ⟨(i : Int), rfl, ?_⟩
      rw [decide_eq_true (by omega), idxI_cons, decide_eq_true ((eq_list _ _).1 h)]
      rfl
    · rw [if_neg h, wrap_in (by omega) (by omega), show ((i : Int) + 1) = ((i + 1 : Nat) : Int) from by omega]
      obtain ⟨n, h1, h2⟩ := ih k (i + 1) (by omega) (by omega) (by omega)
      refine ⟨n, h1, ?_⟩
      rw [h2]
      have hne : ¬ x = l[i] := fun e => h ((eq_list _ _).2 e)
      rw [idxI_cons, decide_eq_false hne]
      rfl
theorem contains_f (l : List ByteArray) (x : ByteArray) (hl : l.length ≤ 1000000000000000000) (k : Nat) (hk : l.length < k) : slices_Contains_string_string.f k l x = some (idxI l x) := by
  obtain ⟨n, h1, h2⟩ := index_l0 l x hl l.length k 0 (by omega) (by omega) hk
  unfold slices_Contains_string_string.f slices_Index_string_string.f
  rw [show (0 : Int) = ((0 : Nat) : Int) from rfl, h1]
  simp only [Option.bind_some]
  rw [List.drop_zero] at h2
  rw [show ((0 : Nat) : Int) = 0 from rfl, h2]
theorem idx_lists (l : List (List UInt8)) (x : List UInt8) : idxI (l.map txt) (txt x) = l.contains x := by
  rw [Bool.eq_iff_iff]
  simp only [idxI, List.any_eq_true, List.mem_map, decide_eq_true_eq, List.contains_iff_mem]
  constructor
  · rintro ⟨y, ⟨z, hz, rfl⟩, h⟩
    rw [Ext.txt_inj h]; exact hz
  · intro h
    exact ⟨txt x, ⟨x, h, rfl⟩, rfl⟩
theorem method_f (s : ByteArray) (hs : s.size ≤ Big) (k : Nat) (hk : 6 < k) : token_Method.f k s = some (txt (Plain.method s.data.toList)) := by
  unfold token_Method.f Ext.token_upper.f
  rw [if_pos hs]
  simp only [Option.bind_some]
  rw [show ([(⟨#[68, 69, 76, 69, 84, 69]⟩ : ByteArray), (⟨#[71, 69, 84]⟩ : ByteArray), (⟨#[72, 69, 65, 68]⟩ : ByteArray), (⟨#[79, 80, 84, 73, 79, 78, 83]⟩ : ByteArray), (⟨#[80, 79, 83, 84]⟩ : ByteArray), (⟨#[80, 85, 84]⟩ : ByteArray)] : List ByteArray) = Plain.methods.map txt from rfl, contains_f _ _ (by decide) k (by show 6 < k; omega), idx_lists]
  unfold Plain.method
  simp only [Option.bind_some]
  split <;> rfl
def lSafe : List (List UInt8) := [[71, 69, 84], [72, 69, 65, 68], [80, 79, 83, 84]]
def safeP (m : List UInt8) : Bool := lSafe.contains (Plain.method m)
theorem safem_f (s : ByteArray) (hs : s.size ≤ Big) (k : Nat) (hk : 6 < k) : safe_Method.f k s = some (safeP s.data.toList) := by
  unfold safe_Method.f safeP
  rw [method_f s hs k hk]
  simp only [Option.bind_some]
  rw [show ([(⟨#[71, 69, 84]⟩ : ByteArray), (⟨#[72, 69, 65, 68]⟩ : ByteArray), (⟨#[80, 79, 83, 84]⟩ : ByteArray)] : List ByteArray) = lSafe.map txt from rfl, contains_f _ _ (by decide) k (by show 3 < k; omega), idx_lists]
  rfl
theorem safeP_lower (m : List UInt8) : safeP (Plain.lower m) = safeP m := by
  unfold safeP Plain.method
  rw [Plain.upper_lower]
  by_cases h : Plain.methods.contains (Plain.upper m) = true
  · rw [if_pos h, if_pos h]
  · rw [if_neg h, if_neg h]
    have hs : ∀ x, x ∈ lSafe → Plain.upper x ∈ Plain.methods := by decide
    have e1 : lSafe.contains m = false := by
      rw [Bool.eq_false_iff]
      intro hc
      exact h (List.contains_iff_mem.2 (hs m (List.contains_iff_mem.1 hc)))
    have e2 : lSafe.contains (Plain.lower m) = false := by
      rw [Bool.eq_false_iff]
      intro hc
      have := hs _ (List.contains_iff_mem.1 hc)
      rw [Plain.upper_lower] at this
      exact h (List.contains_iff_mem.2 this)
    rw [e1, e2]

/-! ### Never, Reads, Hidden -/
theorem take_prefix (p l : List UInt8) (h : p.length ≤ l.length) : (l.take p.length == p) = p.isPrefixOf l := by
  rw [Bool.eq_iff_iff, beq_iff_eq, List.isPrefixOf_iff_prefix]
  constructor
  · intro e
    have := List.take_append_drop p.length l
    rw [e] at this
    exact ⟨_, this⟩
  · rintro ⟨t, rfl⟩
    exact List.take_left' rfl
theorem hasPrefix_f (s p : ByteArray) : strings_HasPrefix.f s p = some (p.data.toList.isPrefixOf s.data.toList) := by
  have hl := len_eq s
  have hp := len_eq p
  unfold strings_HasPrefix.f stringslite_HasPrefix.f
  by_cases h : p.size ≤ s.size
  · rw [if_pos (by omega), if_pos (by omega), if_pos (by omega), Int.toNat_natCast, Lib.extract_eq, list_eq, list_eq]
    rw [show ((⟨((s.data.toList.drop 0).take (p.size - 0)).toArray⟩ : ByteArray).data.toList) = (s.data.toList.drop 0).take (p.size - 0) from rfl, List.drop_zero, Nat.sub_zero, ← hp, take_prefix _ _ (by omega)]
    rfl
  · have e : p.data.toList.isPrefixOf s.data.toList = false := by
      cases e : p.data.toList.isPrefixOf s.data.toList
      · rfl
      · have := (List.isPrefixOf_iff_prefix.1 e).length_le
        omega
    rw [if_neg (by omega), e]
    rfl
theorem never_f (s : ByteArray) (hs : s.size ≤ 1152921504606846976) (k : Nat) (hk : 21 < k) : safe_Never.f k s = some (Plain.neverP s.data.toList) := by
  have hc := contains_f (Plain.lNever.map txt) (txt (Plain.lower s.data.toList)) (by decide) k (by show 21 < k; omega)
  rw [idx_lists] at hc
  unfold safe_Never.f Plain.neverP Plain.neverS
  rw [lower_f s hs]
  simp only [Option.bind_some]
  rw [hasPrefix_f, hasPrefix_f, Ext.txt_data, show (⟨#[112, 114, 111, 120, 121, 45]⟩ : ByteArray).data.toList = Plain.pProxy from rfl, show (⟨#[115, 101, 99, 45]⟩ : ByteArray).data.toList = Plain.pSec from rfl]
  simp only [Option.bind_some]
  cases Plain.pProxy.isPrefixOf (Plain.lower s.data.toList)
  · cases Plain.pSec.isPrefixOf (Plain.lower s.data.toList)
    · simp only [Bool.false_eq_true, if_false, Bool.false_or]
      refine (congrArg (fun o => Option.bind o fun t => some t) (?_ : _ = some (Plain.lNever.contains (Plain.lower s.data.toList)))).trans rfl
      exact hc
    · simp
  · simp
theorem reads_f (s : ByteArray) (hs : s.size ≤ 1152921504606846976) (k : Nat) (hk : 7 < k) : safe_Reads.f k s = some (Plain.readsP s.data.toList) := by
  have hc := contains_f (Plain.lReads.map txt) (txt (Plain.lower s.data.toList)) (by decide) k (by show 7 < k; omega)
  rw [idx_lists] at hc
  unfold safe_Reads.f Plain.readsP
  rw [lower_f s hs]
  simp only [Option.bind_some]
  refine (congrArg (fun o => Option.bind o fun t => some t) (?_ : _ = some (Plain.lReads.contains (Plain.lower s.data.toList)))).trans rfl
  exact hc
theorem hidden_f (s : ByteArray) (hs : s.size ≤ 1152921504606846976) : safe_Hidden.f s = some (Plain.hiddenP s.data.toList) := by
  unfold safe_Hidden.f Plain.hiddenP
  rw [lower_f s hs]
  simp only [Option.bind_some]
  rw [list_eq, Ext.txt_data]
  by_cases h : Plain.lower s.data.toList = [115, 101, 116, 45, 99, 111, 111, 107, 105, 101]
  · rw [if_pos h, h]
    rfl
  · rw [if_neg h, beq_eq_false_iff_ne.2 h]
    rfl

/-! ### in -/
theorem in_l0 (l : List ByteArray) (x : ByteArray) (hl : l.length ≤ 1000000000000000000) (d : Nat) : ∀ (k i : Nat), l.length - i = d → i ≤ l.length → d < k → transeptlaw12_in.l0 k l x (i : Int) = some ((l.drop i).any fun y => decide (y = x)) := by
  induction d with
  | zero =>
    intro k i hd hi hk
    obtain ⟨k, rfl⟩ : ∃ m, k = m + 1 := ⟨k - 1, by omega⟩
    simp only [transeptlaw12_in.l0]
    rw [if_neg (by omega), drop_end (by omega)]
    rfl
  | succ d ih =>
    intro k i hd hi hk
    obtain ⟨k, rfl⟩ : ∃ m, k = m + 1 := ⟨k - 1, by omega⟩
    have hli : i < l.length := by omega
    simp only [transeptlaw12_in.l0]
    rw [if_pos (by omega), if_pos (by omega), rd_V l i hli, drop_cons hli, List.any_cons]
    by_cases h : l[i].toList = x.toList
    · rw [if_pos h, decide_eq_true ((eq_list _ _).1 h), Bool.true_or]
    · rw [if_neg h, wrap_in (by omega) (by omega), show ((i : Int) + 1) = ((i + 1 : Nat) : Int) from by omega, ih k (i + 1) (by omega) (by omega) (by omega), decide_eq_false (fun e => h ((eq_list _ _).2 e)), Bool.false_or]
theorem in_f (l : List (List UInt8)) (x : List UInt8) (hl : l.length ≤ 1000000000000000000) (k : Nat) (hk : l.length < k) : transeptlaw12_in.f k (l.map txt) (txt x) = some (decide (x ∈ l)) := by
  unfold transeptlaw12_in.f
  rw [show (0 : Int) = ((0 : Nat) : Int) from rfl, in_l0 (l.map txt) (txt x) (by rw [List.length_map]; exact hl) (l.map txt).length k 0 rfl (by omega) (by rw [List.length_map]; exact hk), List.drop_zero]
  congr 1
  rw [Bool.eq_iff_iff, List.any_eq_true, decide_eq_true_eq]
  constructor
  · rintro ⟨y, hy, e⟩
    obtain ⟨z, hz, rfl⟩ := List.mem_map.1 hy
    rw [← Ext.txt_inj (of_decide_eq_true e)]
    exact hz
  · intro h
    exact ⟨txt x, List.mem_map.2 ⟨x, h, rfl⟩, by simp⟩

/-! ### Names, Unsafe -/
structure Fits (l : List S30) : Prop where
  len : l.length ≤ 1048580
  name : ∀ f ∈ l, f.f0.size ≤ 140737488351300
  value : ∀ f ∈ l, f.f1.size ≤ 140737488351300
theorem Fits.sub {l m : List S30} (h : Fits l) (hm : ∀ f ∈ m, f ∈ l) (hl : m.length ≤ 1048580) : Fits m := ⟨hl, fun f hf => h.name f (hm f hf), fun f hf => h.value f (hm f hf)⟩
theorem names_f (l : List S30) (hl : l.length ≤ 3000000) (hs : ∀ f ∈ l, f.f0.size ≤ 140737488351300) : field_Names.f l = some ((Plain.nm (l.map field_Names.key)).map txt) := by
  unfold field_Names.f
  rw [if_pos ⟨by omega, List.all_eq_true.2 fun f hf => decide_eq_true (by have := hs f hf; omega)⟩]
def hd (f : S30) : Bool := Plain.hdr f.f0.data.toList f.f1.data.toList
def ln (f : S30) : Nat := f.f1.size
def unsP (l : List S30) : List (List UInt8) := Plain.uns hd ln field_Names.key l
theorem hd_len {f : S30} (h : hd f = true) : ln f ≤ 128 := by
  have := Plain.hdr_len h
  rw [len_eq] at this
  exact this
theorem wrap_add (n m : Nat) (h : n + m ≤ 9223372036854775807) : wrap64 ((n : Int) + (m : Int)) = ((n + m : Nat) : Int) := by
  rw [wrap_in (by omega) (by omega)]
  omega
theorem wrap_one (n : Nat) (h : n + 1 ≤ 9223372036854775807) : wrap64 ((n : Int) + 1) = ((n + 1 : Nat) : Int) := wrap_add n 1 h
theorem unsafe_l0 {l : List S30} (h : Fits l) (d : Nat) : ∀ (k i : Nat) (bad gd : List S30) (n : Nat), l.length - i = d → i ≤ l.length → d < k → bad.length + gd.length ≤ i → (∀ f ∈ bad, f ∈ l) → (∀ f ∈ gd, f ∈ l) → n ≤ 128 * i →
    safe_Unsafe.l0 k bad gd (n : Int) l (l.length : Int) (i : Int) = some ((Plain.nm ((if 1024 < n + Plain.good hd ln (l.drop i) then (bad ++ (l.drop i).filter (fun f => !hd f)) ++ (gd ++ (l.drop i).filter hd) else bad ++ (l.drop i).filter (fun f => !hd f)).map field_Names.key)).map txt) := by
  have hlen := h.len
  induction d with
  | zero =>
    intro k i bad gd n hd' hi hk hl hb hg hn
    obtain ⟨k, rfl⟩ : ∃ m, k = m + 1 := ⟨k - 1, by omega⟩
    simp only [safe_Unsafe.l0]
    rw [if_neg (by omega), drop_end (by omega)]
    have e0 : Plain.good hd ln [] = 0 := rfl
    rw [e0, List.filter_nil, List.filter_nil, List.append_nil, List.append_nil, Nat.add_zero]
    by_cases hc : 1024 < n
    · rw [if_pos (by omega), if_pos hc, if_pos (by omega), names_f (bad ++ gd) (by rw [List.length_append]; omega) (fun f hf => by rcases List.mem_append.1 hf with hf | hf; exact h.name f (hb f hf); exact h.name f (hg f hf))]
      rfl
    · rw [if_neg (by omega), if_neg hc, names_f bad (by omega) (fun f hf => h.name f (hb f hf))]
      rfl
  | succ d ih =>
    intro k i bad gd n hd' hi hk hl hb hg hn
    obtain ⟨k, rfl⟩ : ∃ m, k = m + 1 := ⟨k - 1, by omega⟩
    have hli : i < l.length := by omega
    have hmem := List.getElem_mem hli
    have hrd := rd_F l i hli
    have hdr := drop_cons hli
    generalize l[i] = f at hmem hrd hdr
    have h0 := h.name _ hmem
    have h1 := h.value _ hmem
    have hs0 : f.f0.size ≤ 1152921504606846976 := Nat.le_trans h0 (by decide)
    have hs1 : f.f1.size ≤ 1152921504606846976 := Nat.le_trans h1 (by decide)
    have hln : ln f = f.f1.size := rfl
    rw [← hln] at h1
    have hnb : n + ln f ≤ 9223372036854775807 := by omega
    have c1 : (i : Int) < (l.length : Int) := by omega
    have c2 : (0 : Int) ≤ (i : Int) := by omega
    have c3 : gd.length < 4398046511104 := by omega
    have c4 : bad.length < 4398046511104 := by omega
    have c5 : i + 1 ≤ 9223372036854775807 := by omega
    have hx : safe_Unsafe.l0 (k + 1) bad gd (n : Int) l (l.length : Int) (i : Int) = (if hd f = true then safe_Unsafe.l0 k bad (gd ++ [f]) ((n + ln f : Nat) : Int) l (l.length : Int) ((i + 1 : Nat) : Int) else safe_Unsafe.l0 k (bad ++ [f]) gd (n : Int) l (l.length : Int) ((i + 1 : Nat) : Int)) := by
      have hsz := wrap_one i c5
      have hF := header_f f.f0 f.f1 hs0 hs1
      have hw := wrap_add n (ln f) hnb
      rw [hln] at hw
      simp only [safe_Unsafe.l0, if_pos c1, if_pos c2, hrd, hF, Option.bind_some, if_pos c3, if_pos c4, hsz, hw]
      rfl
    rw [hx, hdr]
    by_cases hh : hd f = true
    · have hle := hd_len hh
      have b1 : n + ln f ≤ 128 * (i + 1) := by omega
      have b2 : bad.length + (gd ++ [f]).length ≤ i + 1 := by rw [List.length_append, List.length_singleton]; omega
      rw [if_pos hh, ih k (i + 1) bad (gd ++ [f]) (n + ln f) (by omega) (by omega) (by omega) b2 hb (fun g hg' => by rcases List.mem_append.1 hg' with hg' | hg'; exact hg g hg'; rw [List.mem_singleton.1 hg']; exact hmem) b1]
      rw [Plain.good_cons, if_pos hh, List.filter_cons, hh, Nat.add_assoc, List.filter_cons, hh, List.append_assoc gd]
      rfl
    · have hf := Bool.eq_false_iff.2 hh
      have b1 : n ≤ 128 * (i + 1) := by omega
      have b2 : (bad ++ [f]).length + gd.length ≤ i + 1 := by rw [List.length_append, List.length_singleton]; omega
      rw [if_neg hh, ih k (i + 1) (bad ++ [f]) gd n (by omega) (by omega) (by omega) b2 (fun g hg' => by rcases List.mem_append.1 hg' with hg' | hg'; exact hb g hg'; rw [List.mem_singleton.1 hg']; exact hmem) hg b1]
      rw [Plain.good_cons, if_neg hh, Nat.zero_add, List.filter_cons, hf, List.filter_cons, hf, List.append_assoc bad]
      rfl
theorem unsafe_f {l : List S30} (h : Fits l) (k : Nat) (hk : l.length < k) : safe_Unsafe.f k l = some ((unsP l).map txt) := by
  unfold safe_Unsafe.f
  have := unsafe_l0 h l.length k 0 [] [] 0 (by omega) (by omega) hk (by simp) (by simp) (by simp) (by omega)
  rw [List.drop_zero, Nat.zero_add, List.nil_append, List.nil_append] at this
  exact this
theorem unsP_le (l : List S30) : (unsP l).length ≤ l.length := Plain.uns_length hd ln field_Names.key l
end Go.Proofs.YtikhboebmmmopaaDoor.PureS
