/-
  PLAIN LAWS: what the printed functions that safe.Header reaches (Cut, CutPrefix, Trim, Essence, Contains) come to. Conditions: sizes that an int holds.
-/
import Derived.Test.YtikhboebmmmopaaDoorPlainH
import Derived.Test.YtikhboebmmmopaaDoorFunE
namespace Go.Proofs.YtikhboebmmmopaaDoor.PureE
open Go.RowKit Go.Proofs.YtikhboebmmmopaaDoorW.PrintWords
open Go.Proofs.YtikhboebmmmopaaDoor.Ext (txt Big)
open Go.Proofs.YtikhboebmmmopaaDoor.FunE
open Go.Proofs.YtikhboebmmmopaaDoor.Plain (upTo past essence)

theorem mwrap {i : Int} (h0 : -9223372036854775808 ≤ i) (h1 : i ≤ 9223372036854775807) : wrap64 i = i := by
  unfold wrap64
  omega
theorem mlen (s : ByteArray) : s.data.toList.length = s.size := (Lib.size_eq s).symm
theorem mlist (s : ByteArray) : s.toList = s.data.toList := Lib.toList_data s
theorem mextract (s : ByteArray) (a b : Nat) : s.extract a b = txt ((s.data.toList.drop a).take (b - a)) := by
  rw [Lib.extract_eq]
  rfl
theorem mname (s : ByteArray) (hs : s.size ≤ Big) : Ext.token_Name.f s = some (Plain.nameB s.data.toList) := by
  unfold Ext.token_Name.f
  rw [if_pos hs]
theorem mlower (s : ByteArray) (hs : s.size ≤ Big) : Ext.token_Lower.f s = some (txt (Plain.lower s.data.toList)) := by
  unfold Ext.token_Lower.f
  rw [if_pos hs]
theorem mtrim (s : ByteArray) (hs : s.size ≤ Big) : token_Trim.f s = some (txt (Plain.trimB s.data.toList)) := by
  unfold token_Trim.f
  rw [Ext.trim_blanks s hs]
  rfl
theorem mapp (a b : List UInt8) : txt a ++ txt b = txt (a ++ b) := by
  apply Ext.data_inj
  simp [Ext.txt_data]
theorem mtl (l : List UInt8) : (txt l).toList = l := by rw [mlist, Ext.txt_data]

theorem idx_in (c : UInt8) : ∀ (l : List UInt8), c ∈ l → Lib.indexByte l c = ((upTo c l).length : Int)
  | [], h => by cases h
  | b :: l, h => by
    by_cases e : b = c
    · subst e
      simp [Lib.indexByte, upTo]
    · have h1 : c ∈ l := by rcases List.mem_cons.1 h with h | h; exact absurd h.symm e; exact h
      have ih := idx_in c l h1
      have hb : (b == c) = false := by simpa using e
      have hb2 : (b != c) = true := by simpa using e
      have hn : ((((upTo c l).length : Int)) == -1) = false := by
        simp only [beq_eq_false_iff_ne, ne_eq]
        omega
      have e1 : upTo c (b :: l) = b :: upTo c l := by unfold upTo; rw [List.takeWhile_cons, if_pos hb2]
      unfold Lib.indexByte
      rw [hb, ih, hn, e1]
      simp
theorem idx_out (c : UInt8) : ∀ (l : List UInt8), c ∉ l → Lib.indexByte l c = -1
  | [], _ => rfl
  | b :: l, h => by
    have e : ¬ b = c := fun e => h (by rw [e]; exact List.mem_cons_self ..)
    have ih := idx_out c l (fun hc => h (List.mem_cons_of_mem _ hc))
    have hb : (b == c) = false := by simpa using e
    unfold Lib.indexByte
    rw [hb, ih]
    simp
theorem cut_f (s : ByteArray) (c : UInt8) (hs : s.size ≤ 4611686018427387904) : strings_Cut.f s ⟨#[c]⟩ = some (txt (upTo c s.data.toList), txt (past c s.data.toList), s.data.toList.contains c) := by
  have hB : s.size ≤ Big := by unfold Ext.Big; omega
  have hl := mlen s
  unfold strings_Cut.f stringslite_Cut.f Ext.stringslite_Index.f
  rw [if_pos ⟨by rfl, hB⟩]
  simp only [Option.bind_some]
  rw [show ((⟨#[c]⟩ : ByteArray).data[0]?.getD 0) = c from rfl, show ((⟨#[c]⟩ : ByteArray).size : Int) = 1 from rfl]
  by_cases h : c ∈ s.data.toList
  · obtain ⟨h1, h2⟩ := Plain.split_at c _ h
    have hlen : (upTo c s.data.toList).length + 1 + (past c s.data.toList).length = s.size := by
      rw [← hl]
      have := congrArg List.length h1
      rw [List.length_append, List.length_cons] at this
      omega
    rw [idx_in c _ h, if_pos (by omega), if_pos (by omega), if_pos (by omega), mwrap (by omega) (by omega), if_pos (by omega), if_pos (by omega)]
    simp only [Option.bind_some]
    rw [Int.toNat_natCast, show (((upTo c s.data.toList).length : Int) + 1).toNat = (upTo c s.data.toList).length + 1 by omega, mextract, mextract]
    have e1 : (s.data.toList.drop 0).take ((upTo c s.data.toList).length - 0) = upTo c s.data.toList := by
      rw [List.drop_zero, Nat.sub_zero]
      conv => lhs; arg 2; rw [h1]
      exact List.take_left
    have e2 : (s.data.toList.drop ((upTo c s.data.toList).length + 1)).take (s.size - ((upTo c s.data.toList).length + 1)) = past c s.data.toList := by
      rw [List.take_of_length_le (by rw [List.length_drop, hl]; exact Nat.le_refl _)]
      conv => lhs; arg 2; rw [h1]
      rw [show upTo c s.data.toList ++ c :: past c s.data.toList = (upTo c s.data.toList ++ [c]) ++ past c s.data.toList by simp]
      exact List.drop_left' (by simp)
    rw [e1, e2, List.contains_iff_mem.2 h]
  · rw [idx_out c _ h, if_neg (by omega)]
    simp only [Option.bind_some]
    rw [Plain.upTo_none c _ h, Plain.past_none c _ h, Ext.txt_self, show s.data.toList.contains c = false from by simpa using h]
    rfl

def essT (l : List UInt8) : ByteArray × Bool := match essence l with
  | some e => (txt e, true)
  | none => (⟨#[]⟩, false)
theorem essT_some {l e : List UInt8} (h : essence l = some e) : essT l = (txt e, true) := by unfold essT; rw [h]
theorem essT_none {l : List UInt8} (h : essence l = none) : essT l = (⟨#[]⟩, false) := by unfold essT; rw [h]
theorem upTo_len (c : UInt8) (l : List UInt8) : (upTo c l).length ≤ l.length := (List.takeWhile_prefix _).length_le
theorem past_len (c : UInt8) (l : List UInt8) : (past c l).length ≤ l.length := by
  unfold past
  rw [List.length_drop]
  have := (List.dropWhile_suffix (l := l) (· != c)).length_le
  omega
theorem essence_f (s : ByteArray) (hs : s.size ≤ 1152921504606846976) : mime_Essence.f s = some (essT s.data.toList) := by
  have hl := mlen s
  obtain ⟨t, ht⟩ : ∃ t, t = Plain.trimB (upTo 59 s.data.toList) := ⟨_, rfl⟩
  have hu := upTo_len 59 s.data.toList
  have ht1 : t.length ≤ s.size := by
    rw [ht]
    have : (Plain.trimB (upTo 59 s.data.toList)).length ≤ _ := Plain.trimP_length _ _
    omega
  have h1 := upTo_len 47 t
  have h2 := past_len 47 t
  have c59 := cut_f s 59 (by omega)
  have ctr := mtrim (txt (upTo 59 s.data.toList)) (by rw [Ext.txt_size]; unfold Ext.Big; omega)
  rw [Ext.txt_data, ← ht] at ctr
  have c47 := cut_f (txt t) 47 (by rw [Ext.txt_size]; omega)
  rw [Ext.txt_data] at c47
  have n1 := mname (txt (upTo 47 t)) (by rw [Ext.txt_size]; unfold Ext.Big; omega)
  have n2 := mname (txt (past 47 t)) (by rw [Ext.txt_size]; unfold Ext.Big; omega)
  rw [Ext.txt_data] at n1 n2
  unfold mime_Essence.f
  rw [c59]
  simp only [Option.bind_some]
  rw [ctr]
  simp only [Option.bind_some]
  rw [c47]
  simp only [Option.bind_some]
  unfold essT essence
  rw [← ht]
  by_cases a1 : t.contains 47 = true
  · rw [if_pos a1, n1]
    simp only [Option.bind_some]
    by_cases a2 : Plain.nameB (upTo 47 t) = true
    · rw [if_pos a2, n2]
      simp only [Option.bind_some]
      by_cases a3 : Plain.nameB (past 47 t) = true
      · rw [if_pos a3, show (⟨#[47]⟩ : ByteArray) = txt [47] from rfl, mapp, mapp]
        rw [if_pos (by rw [Ext.txt_size]; omega), if_pos (by rw [Ext.txt_size, Ext.txt_size, List.length_append, List.length_singleton]; omega), mlower _ (by rw [Ext.txt_size]; unfold Ext.Big; simp only [List.length_append, List.length_singleton]; omega), Ext.txt_data, if_pos ⟨a1, a2, a3⟩]
        simp
      · rw [if_neg a3, if_neg (fun h => a3 h.2.2)]
    · rw [if_neg a2, if_neg (fun h => a2 h.2.1)]
  · rw [if_neg a1, if_neg (fun h => a1 h.1)]

/-! ### Index, Contains -/
def idxI (l : List ByteArray) (x : ByteArray) : Bool := l.any fun y => decide (x = y)
theorem idxI_cons (y : ByteArray) (l : List ByteArray) (x : ByteArray) : idxI (y :: l) x = (decide (x = y) || idxI l x) := rfl
theorem rd_nat (l : List ByteArray) (i : Nat) (h : i < l.length) : rdOf ByteArray.empty l (i : Int) = l[i] := by
  unfold rdOf
  rw [Int.toNat_natCast, List.getD, List.getElem?_eq_getElem h]
  rfl
theorem eq_list (a b : ByteArray) : (a.toList = b.toList) ↔ a = b := by
  rw [mlist, mlist]
  exact ⟨Ext.data_inj, fun h => by rw [h]⟩
theorem index_l0 (l : List ByteArray) (x : ByteArray) (hl : l.length ≤ 1000000000000000000) (d : Nat) : ∀ (k i : Nat), l.length - i = d → i ≤ l.length → d < k →
    ∃ n : Int, slices_Index_string_string.l0 k l x (l.length : Int) (i : Int) = some n ∧ decide (n ≥ 0) = idxI (l.drop i) x := by
  induction d with
  | zero =>
    intro k i hd hi hk
    obtain ⟨k, rfl⟩ : ∃ m, k = m + 1 := ⟨k - 1, by omega⟩
    refine ⟨-1, ?_, ?_⟩
    · simp only [slices_Index_string_string.l0]
      rw [if_neg (by omega)]
    · rw [List.drop_eq_nil_of_le (by omega)]
      rfl
  | succ d ih =>
    intro k i hd hi hk
    obtain ⟨k, rfl⟩ : ∃ m, k = m + 1 := ⟨k - 1, by omega⟩
    have hli : i < l.length := by omega
    simp only [slices_Index_string_string.l0]
    rw [if_pos (by omega), if_pos (by omega), if_pos (by omega), rd_nat l i hli, List.drop_eq_getElem_cons hli]
    by_cases h : x.toList = l[i].toList
    · rw [if_pos h]
      refine ⟨(i : Int), rfl, ?_⟩
      rw [decide_eq_true (by omega), idxI_cons, decide_eq_true ((eq_list _ _).1 h)]
      rfl
    · rw [if_neg h, mwrap (by omega) (by omega), show ((i : Int) + 1) = ((i + 1 : Nat) : Int) from by omega]
      obtain ⟨n, h1, h2⟩ := ih k (i + 1) (by omega) (by omega) (by omega)
      refine ⟨n, h1, ?_⟩
      rw [h2]
      have hne : ¬ x = l[i] := fun e => h ((eq_list _ _).2 e)
      rw [idxI_cons, decide_eq_false hne]
      rfl
theorem contains_f (l : List ByteArray) (x : ByteArray) (hl : l.length ≤ 1000000000000000000) (k : Nat) (hk : l.length < k) : slices_Contains_string_string.f k l x = some (idxI l x) := by
  obtain ⟨n, h1, h2⟩ := index_l0 l x hl l.length k 0 (by omega) (by omega) hk
  unfold slices_Contains_string_string.f slices_Index_string_string.f
  rw [show (0 : Int) = ((0 : Nat) : Int) from rfl, h1]
  simp only [Option.bind_some]
  rw [List.drop_zero] at h2
  rw [show ((0 : Nat) : Int) = 0 from rfl, h2]
theorem idx_lists (l : List (List UInt8)) (x : List UInt8) : idxI (l.map txt) (txt x) = l.contains x := by
  rw [Bool.eq_iff_iff]
  simp only [idxI, List.any_eq_true, List.mem_map, decide_eq_true_eq, List.contains_iff_mem]
  constructor
  · rintro ⟨y, ⟨z, hz, rfl⟩, h⟩
    rw [Ext.txt_inj h]; exact hz
  · intro h
    exact ⟨txt x, ⟨x, h, rfl⟩, rfl⟩


/-! ### CutPrefix -/
theorem take_prefix (p l : List UInt8) (h : p.length ≤ l.length) : (l.take p.length == p) = p.isPrefixOf l := by
  rw [Bool.eq_iff_iff, beq_iff_eq, List.isPrefixOf_iff_prefix]
  constructor
  · intro e
    have := List.take_append_drop p.length l
    rw [e] at this
    exact ⟨_, this⟩
  · rintro ⟨t, rfl⟩
    exact List.take_left' rfl
theorem not_prefix (p l : List UInt8) (h : l.length < p.length) : p.isPrefixOf l = false := by
  cases e : p.isPrefixOf l
  · rfl
  · have := (List.isPrefixOf_iff_prefix.1 e).length_le
    omega
theorem hasPrefix_f (s p : ByteArray) : strings_HasPrefix.f s p = some (p.data.toList.isPrefixOf s.data.toList) := by
  have hl := mlen s
  have hp := mlen p
  unfold strings_HasPrefix.f stringslite_HasPrefix.f
  by_cases h : p.size ≤ s.size
  · rw [if_pos (by omega), if_pos (by omega), if_pos (by omega), Int.toNat_natCast, mextract, List.drop_zero, Nat.sub_zero, mtl, mlist, ← hp, take_prefix _ _ (by omega)]
    rfl
  · rw [if_neg (by omega), not_prefix _ _ (by omega)]
    rfl
theorem cutPrefix_f (s p : ByteArray) : strings_CutPrefix.f s p = some (if p.data.toList.isPrefixOf s.data.toList = true then (txt (s.data.toList.drop p.size), true) else (s, false)) := by
  have hl := mlen s
  have hp := mlen p
  have h1 := hasPrefix_f s p
  unfold strings_HasPrefix.f at h1
  have h2 : stringslite_HasPrefix.f s p = some (p.data.toList.isPrefixOf s.data.toList) := by
    revert h1
    cases stringslite_HasPrefix.f s p <;> simp
  unfold strings_CutPrefix.f stringslite_CutPrefix.f
  rw [h2]
  simp only [Option.bind_some]
  by_cases h : p.data.toList.isPrefixOf s.data.toList = true
  · have hle := (List.isPrefixOf_iff_prefix.1 h).length_le
    rw [if_pos h, if_pos h, if_pos (by omega), if_pos (by omega), Int.toNat_natCast, mextract, List.take_of_length_le (by rw [List.length_drop]; omega)]
    rfl
  · rw [if_neg h, if_neg h]
    rfl
end Go.Proofs.YtikhboebmmmopaaDoor.PureE
