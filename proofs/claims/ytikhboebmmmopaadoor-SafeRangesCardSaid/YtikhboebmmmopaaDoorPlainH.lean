/-
  PLAIN LAWS, with no program in sight: which values are safe (hdr), which names may never be set (neverP): what holds of parts, of letters, of lengths, of ranges. No conditions.
-/
import Derived.Test.YtikhboebmmmopaaDoorPlainM
import Derived.Test.YtikhboebmmmopaaDoorPlainS
import Derived.Test.YtikhboebmmmopaaDoorExtNum
namespace Go.Proofs.YtikhboebmmmopaaDoor.Plain
def nAccept : List UInt8 := [97, 99, 99, 101, 112, 116]
def nALang : List UInt8 := [97, 99, 99, 101, 112, 116, 45, 108, 97, 110, 103, 117, 97, 103, 101]
def nCLang : List UInt8 := [99, 111, 110, 116, 101, 110, 116, 45, 108, 97, 110, 103, 117, 97, 103, 101]
def nCType : List UInt8 := [99, 111, 110, 116, 101, 110, 116, 45, 116, 121, 112, 101]
def nRange : List UInt8 := [114, 97, 110, 103, 101]
def kinds : List (List UInt8) := [[97, 112, 112, 108, 105, 99, 97, 116, 105, 111, 110, 47, 120, 45, 119, 119, 119, 45, 102, 111, 114, 109, 45, 117, 114, 108, 101, 110, 99, 111, 100, 101, 100], [109, 117, 108, 116, 105, 112, 97, 114, 116, 47, 102, 111, 114, 109, 45, 100, 97, 116, 97], [116, 101, 120, 116, 47, 112, 108, 97, 105, 110]]
def lNever : List (List UInt8) := [[97, 99, 99, 101, 112, 116, 45, 99, 104, 97, 114, 115, 101, 116], [97, 99, 99, 101, 112, 116, 45, 101, 110, 99, 111, 100, 105, 110, 103], [97, 99, 99, 101, 115, 115, 45, 99, 111, 110, 116, 114, 111, 108, 45, 114, 101, 113, 117, 101, 115, 116, 45, 104, 101, 97, 100, 101, 114, 115], [97, 99, 99, 101, 115, 115, 45, 99, 111, 110, 116, 114, 111, 108, 45, 114, 101, 113, 117, 101, 115, 116, 45, 109, 101, 116, 104, 111, 100], [99, 111, 110, 110, 101, 99, 116, 105, 111, 110], [99, 111, 110, 116, 101, 110, 116, 45, 108, 101, 110, 103, 116, 104], [99, 111, 111, 107, 105, 101], [99, 111, 111, 107, 105, 101, 50], [100, 97, 116, 101], [100, 110, 116], [101, 120, 112, 101, 99, 116], [104, 111, 115, 116], [107, 101, 101, 112, 45, 97, 108, 105, 118, 101], [111, 114, 105, 103, 105, 110], [114, 101, 102, 101, 114, 101, 114], [115, 101, 116, 45, 99, 111, 111, 107, 105, 101], [116, 101], [116, 114, 97, 105, 108, 101, 114], [116, 114, 97, 110, 115, 102, 101, 114, 45, 101, 110, 99, 111, 100, 105, 110, 103], [117, 112, 103, 114, 97, 100, 101], [118, 105, 97]]
def lReads : List (List UInt8) := [[99, 97, 99, 104, 101, 45, 99, 111, 110, 116, 114, 111, 108], [99, 111, 110, 116, 101, 110, 116, 45, 108, 97, 110, 103, 117, 97, 103, 101], [99, 111, 110, 116, 101, 110, 116, 45, 108, 101, 110, 103, 116, 104], [99, 111, 110, 116, 101, 110, 116, 45, 116, 121, 112, 101], [101, 120, 112, 105, 114, 101, 115], [108, 97, 115, 116, 45, 109, 111, 100, 105, 102, 105, 101, 100], [112, 114, 97, 103, 109, 97]]
def pProxy : List UInt8 := [112, 114, 111, 120, 121, 45]
def pSec : List UInt8 := [115, 101, 99, 45]
def pBytes : List UInt8 := [98, 121, 116, 101, 115, 61]
def oddB (c : UInt8) : Bool := (c < 32 && c != 9) || (c == 127 || [34, 40, 41, 58, 60, 62, 63, 64, 91, 92, 93, 123, 125].contains c)
def langB (c : UInt8) : Bool := isAlnum c || [42, 45, 46, 59, 61, 44, 32].contains c
def contB (v : List UInt8) : Bool := !v.any oddB && kinds.any (fun k => essence v == some k)
def rangR (s : List UInt8) : Bool := s.contains 45 && ((Ext.numB (upTo 45 s) 1000000000).2 && (past 45 s == [] || ((Ext.numB (past 45 s) 1000000000).2 && decide ((Ext.numB (upTo 45 s) 1000000000).1 ≤ (Ext.numB (past 45 s) 1000000000).1))))
def rangB (v : List UInt8) : Bool := pBytes.isPrefixOf v && rangR (v.drop 6)
def valB (m v : List UInt8) : Bool := if m = nAccept then !v.any oddB else if m = nALang then v.all langB else if m = nCLang then v.all langB else if m = nCType then contB v else if m = nRange then rangB v else false
def hdr (n v : List UInt8) : Bool := decide (v.length ≤ 128) && valB (lower n) v
def neverS (s : List UInt8) : Bool := pProxy.isPrefixOf s || (pSec.isPrefixOf s || lNever.contains s)
def neverP (n : List UInt8) : Bool := neverS (lower n)
def readsP (n : List UInt8) : Bool := lReads.contains (lower n)
def hiddenP (n : List UInt8) : Bool := lower n == [115, 101, 116, 45, 99, 111, 111, 107, 105, 101] || lower n == [115, 101, 116, 45, 99, 111, 111, 107, 105, 101, 50]

theorem hdr_lower (n v : List UInt8) : hdr (lower n) v = hdr n v := by unfold hdr; rw [lower_lower]
theorem neverP_lower (n : List UInt8) : neverP (lower n) = neverP n := by unfold neverP; rw [lower_lower]
theorem readsP_lower (n : List UInt8) : readsP (lower n) = readsP n := by unfold readsP; rw [lower_lower]
theorem hiddenP_lower (n : List UInt8) : hiddenP (lower n) = hiddenP n := by unfold hiddenP; rw [lower_lower]
theorem hdr_name {n v : List UInt8} (h : hdr n v = true) : lower n = nAccept ∨ lower n = nALang ∨ lower n = nCLang ∨ lower n = nCType ∨ lower n = nRange := by
  unfold hdr valB at h
  rw [Bool.and_eq_true] at h
  have h2 := h.2
  by_cases a1 : lower n = nAccept
  · exact .inl a1
  by_cases a2 : lower n = nALang
  · exact .inr (.inl a2)
  by_cases a3 : lower n = nCLang
  · exact .inr (.inr (.inl a3))
  by_cases a4 : lower n = nCType
  · exact .inr (.inr (.inr (.inl a4)))
  by_cases a5 : lower n = nRange
  · exact .inr (.inr (.inr (.inr a5)))
  rw [if_neg a1, if_neg a2, if_neg a3, if_neg a4, if_neg a5] at h2
  cases h2
theorem hdr_never {n v : List UInt8} (h : hdr n v = true) : neverP n = false := by
  unfold neverP
  rcases hdr_name h with e | e | e | e | e <;> rw [e] <;> decide +kernel
theorem hdr_len {n v : List UInt8} (h : hdr n v = true) : v.length ≤ 128 := by
  unfold hdr at h
  rw [Bool.and_eq_true, decide_eq_true_eq] at h
  exact h.1
theorem hdr_long {n v : List UInt8} (h : 128 < v.length) : hdr n v = false := by
  unfold hdr
  rw [decide_eq_false (by omega), Bool.false_and]
theorem hdr_accept {n : List UInt8} (hn : lower n = nAccept) (v : List UInt8) : hdr n v = (decide (v.length ≤ 128) && !v.any oddB) := by
  unfold hdr valB
  rw [if_pos hn]
theorem hdr_alang {n : List UInt8} (hn : lower n = nALang) (v : List UInt8) : hdr n v = (decide (v.length ≤ 128) && v.all langB) := by
  unfold hdr valB
  rw [hn, if_neg (by decide), if_pos rfl]
theorem hdr_clang {n : List UInt8} (hn : lower n = nCLang) (v : List UInt8) : hdr n v = (decide (v.length ≤ 128) && v.all langB) := by
  unfold hdr valB
  rw [hn, if_neg (by decide), if_neg (by decide), if_pos rfl]
theorem hdr_ctype {n : List UInt8} (hn : lower n = nCType) (v : List UInt8) : hdr n v = (decide (v.length ≤ 128) && contB v) := by
  unfold hdr valB
  rw [hn, if_neg (by decide), if_neg (by decide), if_neg (by decide), if_pos rfl]
theorem hdr_range {n : List UInt8} (hn : lower n = nRange) (v : List UInt8) : hdr n v = (decide (v.length ≤ 128) && rangB v) := by
  unfold hdr valB
  rw [hn, if_neg (by decide), if_neg (by decide), if_neg (by decide), if_neg (by decide), if_pos rfl]

/-! ### parts -/
theorem part_mem {v : List UInt8} {a b : Nat} {c : UInt8} (h : c ∈ (v.drop a).take b) : c ∈ v := List.mem_of_mem_drop (List.mem_of_mem_take h)
theorem part_len (v : List UInt8) (a b : Nat) : ((v.drop a).take b).length ≤ v.length := by rw [List.length_take, List.length_drop]; omega
theorem cuts_accept {n : List UInt8} (hn : lower n = nAccept) {v : List UInt8} (a b : Nat) (h : hdr n v = true) : hdr n ((v.drop a).take b) = true := by
  rw [hdr_accept hn, Bool.and_eq_true, decide_eq_true_eq, Bool.not_eq_true', List.any_eq_false] at h ⊢
  have := part_len v a b
  exact ⟨by omega, fun c hc => h.2 c (part_mem hc)⟩
theorem cuts_lang {n m : List UInt8} (hn : lower n = nALang) (hm : lower m = nCLang) {v : List UInt8} (a b : Nat) (h : hdr n v = true) : hdr m ((v.drop a).take b) = true := by
  rw [hdr_alang hn, Bool.and_eq_true, decide_eq_true_eq, List.all_eq_true] at h
  rw [hdr_clang hm, Bool.and_eq_true, decide_eq_true_eq, List.all_eq_true]
  have := part_len v a b
  exact ⟨by omega, fun c hc => h.2 c (part_mem hc)⟩
theorem odd_end (p : List UInt8) (c : UInt8) (hc : oddB c = true) : (p ++ [c]).any oddB = true := by
  rw [List.any_append]
  simp [hc]
theorem cuts_paren {n : List UInt8} (hn : lower n = nAccept) (p : List UInt8) : hdr n (p ++ [40]) = false := by
  rw [hdr_accept hn, odd_end p 40 (by decide)]
  simp
theorem cuts_brace {n : List UInt8} (hn : lower n = nCType) (p : List UInt8) : hdr n (p ++ [123]) = false := by
  rw [hdr_ctype hn, contB, odd_end p 123 (by decide)]
  simp
theorem cuts_at {n : List UInt8} (hn : lower n = nCLang) (p : List UInt8) : hdr n (p ++ [64]) = false := by
  rw [hdr_clang hn, List.all_append]
  simp only [List.all_cons, List.all_nil, Bool.and_true, show langB 64 = false by decide, Bool.and_false]
theorem num_all {s : List UInt8} {m : Int} (h : (Ext.numB s m).2 = true) : s ≠ [] ∧ s.length ≤ 9 ∧ s.all Ext.isDig = true := by
  unfold Ext.numB at h
  split at h
  · cases h
  · rename_i h1
    have h2 := not_or.1 h1
    split at h
    · rename_i h3
      exact ⟨h2.1, by omega, h3⟩
    · cases h
theorem past_snoc (c d : UInt8) : ∀ (l : List UInt8), c ∈ l → past c (l ++ [d]) = past c l ++ [d]
  | [], h => by cases h
  | b :: l, h => by
    by_cases e : b = c
    · subst e
      simp [past]
    · have h1 : c ∈ l := by rcases List.mem_cons.1 h with h | h; exact absurd h.symm e; exact h
      have ih := past_snoc c d l h1
      have hb : (b != c) = true := by simpa using e
      unfold past at ih ⊢
      rw [List.cons_append, List.dropWhile_cons, if_pos hb, List.dropWhile_cons, if_pos hb]
      exact ih
theorem rang_quote (s : List UInt8) : rangR (s ++ [34]) = false := by
  cases h : rangR (s ++ [34])
  · rfl
  · exfalso
    unfold rangR at h
    rw [Bool.and_eq_true, Bool.and_eq_true, Bool.or_eq_true, Bool.and_eq_true] at h
    obtain ⟨h1, h2, h3⟩ := h
    have hs : (45 : UInt8) ∈ s := by
      have := List.contains_iff_mem.1 h1
      rcases List.mem_append.1 this with h | h
      · exact h
      · exact absurd (List.mem_singleton.1 h) (by decide)
    rw [past_snoc 45 34 s hs] at h3
    rcases h3 with h3 | h3
    · simp at h3
    · have := List.all_eq_true.1 (num_all h3.1).2.2 34 (by simp)
      exact absurd this (by decide)
theorem cuts_quote {n : List UInt8} (hn : lower n = nRange) (p : List UInt8) : hdr n (p ++ [34]) = false := by
  rw [hdr_range hn]
  unfold rangB
  cases hp : pBytes.isPrefixOf (p ++ [34])
  · simp
  · have hpre := List.isPrefixOf_iff_prefix.1 hp
    have hlen : 6 ≤ p.length := by
      rcases Nat.lt_or_ge p.length 6 with h | h
      · exfalso
        obtain ⟨t, ht⟩ := hpre
        have hl := congrArg List.length ht
        rw [List.length_append, List.length_append] at hl
        simp only [show pBytes.length = 6 from rfl, List.length_cons, List.length_nil] at hl
        have ht0 : t = [] := List.length_eq_zero_iff.1 (by omega)
        rw [ht0, List.append_nil] at ht
        have := congrArg List.getLast? ht
        rw [List.getLast?_append, show pBytes.getLast? = some 61 from rfl] at this
        simp at this
      · exact h
    rw [List.drop_append_of_le_length hlen, rang_quote]
    simp

/-! ### ranges -/
theorem dig_no45 {s : List UInt8} (h : s.all Ext.isDig = true) : (45 : UInt8) ∉ s := fun hm => absurd (List.all_eq_true.1 h 45 hm) (by decide)
theorem num_of {s : List UInt8} (h0 : s ≠ []) (h9 : s.length ≤ 9) (hd : s.all Ext.isDig = true) (hn : Ext.numG s < 1000000000) : Ext.numB s 1000000000 = ((Ext.numG s : Int), true) := by
  unfold Ext.numB
  rw [if_neg (by rintro (e | e); exact h0 e; omega), if_pos hd, if_neg (by omega)]
theorem rang_two {s t : List UInt8} (hs0 : s ≠ []) (hs9 : s.length ≤ 9) (hsd : s.all Ext.isDig = true) (hsn : Ext.numG s < 1000000000) (ht0 : t ≠ []) (ht9 : t.length ≤ 9) (htd : t.all Ext.isDig = true) (htn : Ext.numG t < 1000000000) :
    rangB (pBytes ++ s ++ [45] ++ t) = decide (Ext.numG s ≤ Ext.numG t) := by
  have e : pBytes ++ s ++ [45] ++ t = pBytes ++ (s ++ 45 :: t) := by simp
  have h1 : pBytes.isPrefixOf (pBytes ++ (s ++ 45 :: t)) = true := List.isPrefixOf_iff_prefix.2 (List.prefix_append _ _)
  have h2 : (pBytes ++ (s ++ 45 :: t)).drop 6 = s ++ 45 :: t := List.drop_left' rfl
  unfold rangB
  rw [e, h1, h2, Bool.true_and]
  unfold rangR
  rw [upTo_at 45 t s (dig_no45 hsd), past_at 45 t s (dig_no45 hsd), num_of hs0 hs9 hsd hsn, num_of ht0 ht9 htd htn, List.contains_iff_mem.2 (by simp), beq_eq_false_iff_ne.2 ht0]
  simp only [Bool.true_and, Bool.false_or]
  rw [decide_eq_decide]
  omega
theorem rang_open {s : List UInt8} (hs0 : s ≠ []) (hs9 : s.length ≤ 9) (hsd : s.all Ext.isDig = true) (hsn : Ext.numG s < 1000000000) : rangB (pBytes ++ s ++ [45]) = true := by
  have e : pBytes ++ s ++ [45] = pBytes ++ (s ++ 45 :: []) := by simp
  have h1 : pBytes.isPrefixOf (pBytes ++ (s ++ 45 :: [])) = true := List.isPrefixOf_iff_prefix.2 (List.prefix_append _ _)
  have h2 : (pBytes ++ (s ++ 45 :: [])).drop 6 = s ++ 45 :: [] := List.drop_left' rfl
  unfold rangB
  rw [e, h1, h2, Bool.true_and]
  unfold rangR
  rw [upTo_at 45 [] s (dig_no45 hsd), past_at 45 [] s (dig_no45 hsd), num_of hs0 hs9 hsd hsn, List.contains_iff_mem.2 (by simp)]
  rfl
theorem rang_none (t : List UInt8) : rangB (pBytes ++ 45 :: t) = false := by
  have h1 : pBytes.isPrefixOf (pBytes ++ 45 :: t) = true := List.isPrefixOf_iff_prefix.2 (List.prefix_append _ _)
  have h2 : (pBytes ++ 45 :: t).drop 6 = 45 :: t := List.drop_left' rfl
  unfold rangB
  rw [h1, h2, Bool.true_and]
  unfold rangR
  rw [show upTo 45 (45 :: t) = [] from upTo_at 45 t [] (by simp)]
  simp [Ext.numB]
theorem rang_bare {s : List UInt8} (hs0 : s ≠ []) (hsd : s.all Ext.isDig = true) (t : List UInt8) : rangB (s ++ t) = false := by
  obtain ⟨c, r, rfl⟩ := List.exists_cons_of_ne_nil hs0
  have hc : Ext.isDig c = true := by
    have := List.all_eq_true.1 hsd c (List.mem_cons_self ..)
    exact this
  have : pBytes.isPrefixOf (c :: r ++ t) = false := by
    rw [List.cons_append]
    unfold pBytes
    rw [List.isPrefixOf]
    have : ((98 : UInt8) == c) = false := by
      rw [beq_eq_false_iff_ne]
      rintro rfl
      exact absurd hc (by decide)
    rw [this, Bool.false_and]
  unfold rangB
  rw [this, Bool.false_and]
end Go.Proofs.YtikhboebmmmopaaDoor.Plain
