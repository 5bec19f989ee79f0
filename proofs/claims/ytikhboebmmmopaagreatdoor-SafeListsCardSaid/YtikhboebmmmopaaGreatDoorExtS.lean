/-
  PLAIN LAWS, with no program in sight: which values are safe (hdr), which names may never be set (neverP): what holds of parts, of letters, of lengths, of ranges. No conditions.
  CONTRACTS, proved by hand: safe.without, safe.values: the map of five function values that it makes; a store into it and a look-up run concretely. Conditions: those in each statement.
  CONTRACTS, proved by hand: slices.IndexFunc and slices.ContainsFunc over bytes, for every function value that tells. Conditions: those in each statement.
  CONTRACTS, proved by hand: the function value that safe.without hands back. Conditions: those in each statement.
  CONTRACTS, proved by hand: safe.odd and safe.unlike as tests of a byte; what safe.without hands back for each. Conditions: those in each statement.
-/
import Derived.Test.YtikhboebmmmopaaGreatDoorPlainN
import Derived.Test.YtikhboebmmmopaaGreatDoorExtT
import Derived.Test.YtikhboebmmmopaaGreatDoorProg
import Derived.Test.YtikhboebmmmopaaGreatDoorWWords
import Derived.WalkKit
import Derived.LoopTactic
import Derived.RangeFuncRecord
import Derived.MapKept
import Derived.Deep.LoopGhost
import Derived.Test.YtikhboebmmmopaaGreatDoorExtN
import Derived.Test.YtikhboebmmmopaaGreatDoorShelf
namespace Go.Proofs.YtikhboebmmmopaaGreatDoor.Plain
def nAccept : List UInt8 := [97, 99, 99, 101, 112, 116]
def nALang : List UInt8 := [97, 99, 99, 101, 112, 116, 45, 108, 97, 110, 103, 117, 97, 103, 101]
def nCLang : List UInt8 := [99, 111, 110, 116, 101, 110, 116, 45, 108, 97, 110, 103, 117, 97, 103, 101]
def nCType : List UInt8 := [99, 111, 110, 116, 101, 110, 116, 45, 116, 121, 112, 101]
def nRange : List UInt8 := [114, 97, 110, 103, 101]
def kinds : List (List UInt8) := [[97, 112, 112, 108, 105, 99, 97, 116, 105, 111, 110, 47, 120, 45, 119, 119, 119, 45, 102, 111, 114, 109, 45, 117, 114, 108, 101, 110, 99, 111, 100, 101, 100], [109, 117, 108, 116, 105, 112, 97, 114, 116, 47, 102, 111, 114, 109, 45, 100, 97, 116, 97], [116, 101, 120, 116, 47, 112, 108, 97, 105, 110]]
def lNever : List (List UInt8) := [[97, 99, 99, 101, 112, 116, 45, 99, 104, 97, 114, 115, 101, 116], [97, 99, 99, 101, 112, 116, 45, 101, 110, 99, 111, 100, 105, 110, 103], [97, 99, 99, 101, 115, 115, 45, 99, 111, 110, 116, 114, 111, 108, 45, 114, 101, 113, 117, 101, 115, 116, 45, 104, 101, 97, 100, 101, 114, 115], [97, 99, 99, 101, 115, 115, 45, 99, 111, 110, 116, 114, 111, 108, 45, 114, 101, 113, 117, 101, 115, 116, 45, 109, 101, 116, 104, 111, 100], [99, 111, 110, 110, 101, 99, 116, 105, 111, 110], [99, 111, 110, 116, 101, 110, 116, 45, 108, 101, 110, 103, 116, 104], [99, 111, 111, 107, 105, 101], [99, 111, 111, 107, 105, 101, 50], [100, 97, 116, 101], [100, 110, 116], [101, 120, 112, 101, 99, 116], [104, 111, 115, 116], [107, 101, 101, 112, 45, 97, 108, 105, 118, 101], [111, 114, 105, 103, 105, 110], [114, 101, 102, 101, 114, 101, 114], [115, 101, 116, 45, 99, 111, 111, 107, 105, 101], [116, 101], [116, 114, 97, 105, 108, 101, 114], [116, 114, 97, 110, 115, 102, 101, 114, 45, 101, 110, 99, 111, 100, 105, 110, 103], [117, 112, 103, 114, 97, 100, 101], [118, 105, 97]]
def lReads : List (List UInt8) := [[99, 97, 99, 104, 101, 45, 99, 111, 110, 116, 114, 111, 108], [99, 111, 110, 116, 101, 110, 116, 45, 108, 97, 110, 103, 117, 97, 103, 101], [99, 111, 110, 116, 101, 110, 116, 45, 108, 101, 110, 103, 116, 104], [99, 111, 110, 116, 101, 110, 116, 45, 116, 121, 112, 101], [101, 120, 112, 105, 114, 101, 115], [108, 97, 115, 116, 45, 109, 111, 100, 105, 102, 105, 101, 100], [112, 114, 97, 103, 109, 97]]
def pProxy : List UInt8 := [112, 114, 111, 120, 121, 45]
def pSec : List UInt8 := [115, 101, 99, 45]
def pBytes : List UInt8 := [98, 121, 116, 101, 115, 61]
def oddB (c : UInt8) : Bool := (c < 32 && c != 9) || (c == 127 || [34, 40, 41, 58, 60, 62, 63, 64, 91, 92, 93, 123, 125].contains c)
def langB (c : UInt8) : Bool := isAlnum c || [42, 45, 46, 59, 61, 44, 32].contains c
def contB (v : List UInt8) : Bool := !v.any oddB && kinds.any (fun k => essence v == some k)
def rangR (s : List UInt8) : Bool := s.contains 45 && ((Ext.numB (upTo 45 s) 1000000000).2 && (past 45 s == [] || ((Ext.numB (past 45 s) 1000000000).2 && decide ((Ext.numB (upTo 45 s) 1000000000).1 ≤ (Ext.numB (past 45 s) 1000000000).1))))
def rangB (v : List UInt8) : Bool := pBytes.isPrefixOf v && rangR (v.drop 6)
def valB (m v : List UInt8) : Bool := if m = nAccept then !v.any oddB else if m = nALang then v.all langB else if m = nCLang then v.all langB else if m = nCType then contB v else if m = nRange then rangB v else false
def hdr (n v : List UInt8) : Bool := decide (v.length ≤ 128) && valB (lower n) v
def neverS (s : List UInt8) : Bool := pProxy.isPrefixOf s || (pSec.isPrefixOf s || lNever.contains s)
def neverP (n : List UInt8) : Bool := neverS (lower n)
def readsP (n : List UInt8) : Bool := lReads.contains (lower n)
def hiddenP (n : List UInt8) : Bool := lower n == [115, 101, 116, 45, 99, 111, 111, 107, 105, 101] || lower n == [115, 101, 116, 45, 99, 111, 111, 107, 105, 101, 50]

theorem hdr_lower (n v : List UInt8) : hdr (lower n) v = hdr n v := by unfold hdr; rw [lower_lower]
theorem neverP_lower (n : List UInt8) : neverP (lower n) = neverP n := by unfold neverP; rw [lower_lower]
theorem readsP_lower (n : List UInt8) : readsP (lower n) = readsP n := by unfold readsP; rw [lower_lower]
theorem hiddenP_lower (n : List UInt8) : hiddenP (lower n) = hiddenP n := by unfold hiddenP; rw [lower_lower]
theorem hdr_name {n v : List UInt8} (h : hdr n v = true) : lower n = nAccept ∨ lower n = nALang ∨ lower n = nCLang ∨ lower n = nCType ∨ lower n = nRange := by
  unfold hdr valB at h
  rw [Bool.and_eq_true] at h
  have h2 := h.2
  by_cases a1 : lower n = nAccept
  · exact .inl a1
  by_cases a2 : lower n = nALang
  · exact .inr (.inl a2)
  by_cases a3 : lower n = nCLang
  · exact .inr (.inr (.inl a3))
  by_cases a4 : lower n = nCType
  · exact .inr (.inr (.inr (.inl a4)))
  by_cases a5 : lower n = nRange
  · exact .inr (.inr (.inr (.inr a5)))
  rw [if_neg a1, if_neg a2, if_neg a3, if_neg a4, if_neg a5] at h2
  cases h2
theorem hdr_never {n v : List UInt8} (h : hdr n v = true) : neverP n = false := by
  unfold neverP
  rcases hdr_name h with e | e | e | e | e <;> rw [e] <;> decide +kernel
theorem hdr_len {n v : List UInt8} (h : hdr n v = true) : v.length ≤ 128 := by
  unfold hdr at h
  rw [Bool.and_eq_true, decide_eq_true_eq] at h
  exact h.1
theorem hdr_long {n v : List UInt8} (h : 128 < v.length) : hdr n v = false := by
  unfold hdr
  rw [decide_eq_false (by omega), Bool.false_and]
theorem hdr_accept {n : List UInt8} (hn : lower n = nAccept) (v : List UInt8) : hdr n v = (decide (v.length ≤ 128) && !v.any oddB) := by
  unfold hdr valB
  rw [if_pos hn]
theorem hdr_alang {n : List UInt8} (hn : lower n = nALang) (v : List UInt8) : hdr n v = (decide (v.length ≤ 128) && v.all langB) := by
  unfold hdr valB
  rw [hn, if_neg (by decide), if_pos rfl]
theorem hdr_clang {n : List UInt8} (hn : lower n = nCLang) (v : List UInt8) : hdr n v = (decide (v.length ≤ 128) && v.all langB) := by
  unfold hdr valB
  rw [hn, if_neg (by decide), if_neg (by decide), if_pos rfl]
theorem hdr_ctype {n : List UInt8} (hn : lower n = nCType) (v : List UInt8) : hdr n v = (decide (v.length ≤ 128) && contB v) := by
  unfold hdr valB
  rw [hn, if_neg (by decide), if_neg (by decide), if_neg (by decide), if_pos rfl]
theorem hdr_range {n : List UInt8} (hn : lower n = nRange) (v : List UInt8) : hdr n v = (decide (v.length ≤ 128) && rangB v) := by
  unfold hdr valB
  rw [hn, if_neg (by decide), if_neg (by decide), if_neg (by decide), if_neg (by decide), if_pos rfl]

/-! ### parts -/
theorem part_mem {v : List UInt8} {a b : Nat} {c : UInt8} (h : c ∈ (v.drop a).take b) : c ∈ v := List.mem_of_mem_drop (List.mem_of_mem_take h)
theorem part_len (v : List UInt8) (a b : Nat) : ((v.drop a).take b).length ≤ v.length := by rw [List.length_take, List.length_drop]; omega
theorem cuts_accept {n : List UInt8} (hn : lower n = nAccept) {v : List UInt8} (a b : Nat) (h : hdr n v = true) : hdr n ((v.drop a).take b) = true := by
  rw [hdr_accept hn, Bool.and_eq_true, decide_eq_true_eq, Bool.not_eq_true', List.any_eq_false] at h ⊢
  have := part_len v a b
  exact ⟨by omega, fun c hc => h.2 c (part_mem hc)⟩
theorem cuts_lang {n m : List UInt8} (hn : lower n = nALang) (hm : lower m = nCLang) {v : List UInt8} (a b : Nat) (h : hdr n v = true) : hdr m ((v.drop a).take b) = true := by
  rw [hdr_alang hn, Bool.and_eq_true, decide_eq_true_eq, List.all_eq_true] at h
  rw [hdr_clang hm, Bool.and_eq_true, decide_eq_true_eq, List.all_eq_true]
  have := part_len v a b
  exact ⟨by omega, fun c hc => h.2 c (part_mem hc)⟩
theorem odd_end (p : List UInt8) (c : UInt8) (hc : oddB c = true) : (p ++ [c]).any oddB = true := by
  rw [List.any_append]
  simp [hc]
theorem cuts_paren {n : List UInt8} (hn : lower n = nAccept) (p : List UInt8) : hdr n (p ++ [40]) = false := by
  rw [hdr_accept hn, odd_end p 40 (by decide)]
  simp
theorem cuts_brace {n : List UInt8} (hn : lower n = nCType) (p : List UInt8) : hdr n (p ++ [123]) = false := by
  rw [hdr_ctype hn, contB, odd_end p 123 (by decide)]
  simp
theorem cuts_at {n : List UInt8} (hn : lower n = nCLang) (p : List UInt8) : hdr n (p ++ [64]) = false := by
  rw [hdr_clang hn, List.all_append]
  simp only [List.all_cons, List.all_nil, Bool.and_true, show langB 64 = false by decide, Bool.and_false]
theorem num_all {s : List UInt8} {m : Int} (h : (Ext.numB s m).2 = true) : s ≠ [] ∧ s.length ≤ 9 ∧ s.all Ext.isDig = true := by
  unfold Ext.numB at h
  split at h
  · cases h
  · rename_i h1
    have h2 := not_or.1 h1
    split at h
    · rename_i h3
      exact ⟨h2.1, by omega, h3⟩
    · cases h
theorem past_snoc (c d : UInt8) : ∀ (l : List UInt8), c ∈ l → past c (l ++ [d]) = past c l ++ [d]
  | [], h => by cases h
  | b :: l, h => by
    by_cases e : b = c
    · subst e
      simp [past]
    · have h1 : c ∈ l := by rcases List.mem_cons.1 h with h | h; exact absurd h.symm e; exact h
      have ih := past_snoc c d l h1
      have hb : (b != c) = true := by simpa using e
      unfold past at ih ⊢
      rw [List.cons_append, List.dropWhile_cons, if_pos hb, List.dropWhile_cons, if_pos hb]
      exact ih
theorem rang_quote (s : List UInt8) : rangR (s ++ [34]) = false := by
  cases h : rangR (s ++ [34])
  · rfl
  · exfalso
    unfold rangR at h
    rw [Bool.and_eq_true, Bool.and_eq_true, Bool.or_eq_true, Bool.and_eq_true] at h
    obtain ⟨h1, h2, h3⟩ := h
    have hs : (45 : UInt8) ∈ s := by
      have := List.contains_iff_mem.1 h1
      rcases List.mem_append.1 this with h | h
      · exact h
      · exact absurd (List.mem_singleton.1 h) (by decide)
    rw [past_snoc 45 34 s hs] at h3
    rcases h3 with h3 | h3
    · simp at h3
    · have := List.all_eq_true.1 (num_all h3.1).2.2 34 (by simp)
      exact absurd this (by decide)
theorem cuts_quote {n : List UInt8} (hn : lower n = nRange) (p : List UInt8) : hdr n (p ++ [34]) = false := by
  rw [hdr_range hn]
  unfold rangB
  cases hp : pBytes.isPrefixOf (p ++ [34])
  · simp
  · have hpre := List.isPrefixOf_iff_prefix.1 hp
    have hlen : 6 ≤ p.length := by
      rcases Nat.lt_or_ge p.length 6 with h | h
      · exfalso
        obtain ⟨t, ht⟩ := hpre
        have hl := congrArg List.length ht
        rw [List.length_append, List.length_append] at hl
        simp only [show pBytes.length = 6 from rfl, List.length_cons, List.length_nil] at hl
        have ht0 : t = [] := List.length_eq_zero_iff.1 (by omega)
        rw [ht0, List.append_nil] at ht
        have := congrArg List.getLast? ht
        rw [List.getLast?_append, show pBytes.getLast? = some 61 from rfl] at this
        simp at this
      · exact h
    rw [List.drop_append_of_le_length hlen, rang_quote]
    simp

/-! ### ranges -/
theorem dig_no45 {s : List UInt8} (h : s.all Ext.isDig = true) : (45 : UInt8) ∉ s := fun hm => absurd (List.all_eq_true.1 h 45 hm) (by decide)
theorem num_of {s : List UInt8} (h0 : s ≠ []) (h9 : s.length ≤ 9) (hd : s.all Ext.isDig = true) (hn : Ext.numG s < 1000000000) : Ext.numB s 1000000000 = ((Ext.numG s : Int), true) := by
  unfold Ext.numB
  rw [if_neg (by rintro (e | e); exact h0 e; omega), if_pos hd, if_neg (by omega)]
theorem rang_two {s t : List UInt8} (hs0 : s ≠ []) (hs9 : s.length ≤ 9) (hsd : s.all Ext.isDig = true) (hsn : Ext.numG s < 1000000000) (ht0 : t ≠ []) (ht9 : t.length ≤ 9) (htd : t.all Ext.isDig = true) (htn : Ext.numG t < 1000000000) :
    rangB (pBytes ++ s ++ [45] ++ t) = decide (Ext.numG s ≤ Ext.numG t) := by
  have e : pBytes ++ s ++ [45] ++ t = pBytes ++ (s ++ 45 :: t) := by simp
  have h1 : pBytes.isPrefixOf (pBytes ++ (s ++ 45 :: t)) = true := List.isPrefixOf_iff_prefix.2 (List.prefix_append _ _)
  have h2 : (pBytes ++ (s ++ 45 :: t)).drop 6 = s ++ 45 :: t := List.drop_left' rfl
  unfold rangB
  rw [e, h1, h2, Bool.true_and]
  unfold rangR
  rw [upTo_at 45 t s (dig_no45 hsd), past_at 45 t s (dig_no45 hsd), num_of hs0 hs9 hsd hsn, num_of ht0 ht9 htd htn, List.contains_iff_mem.2 (by simp), beq_eq_false_iff_ne.2 ht0]
  simp only [Bool.true_and, Bool.false_or]
  rw [decide_eq_decide]
  omega
theorem rang_open {s : List UInt8} (hs0 : s ≠ []) (hs9 : s.length ≤ 9) (hsd : s.all Ext.isDig = true) (hsn : Ext.numG s < 1000000000) : rangB (pBytes ++ s ++ [45]) = true := by
  have e : pBytes ++ s ++ [45] = pBytes ++ (s ++ 45 :: []) := by simp
  have h1 : pBytes.isPrefixOf (pBytes ++ (s ++ 45 :: [])) = true := List.isPrefixOf_iff_prefix.2 (List.prefix_append _ _)
  have h2 : (pBytes ++ (s ++ 45 :: [])).drop 6 = s ++ 45 :: [] := List.drop_left' rfl
  unfold rangB
  rw [e, h1, h2, Bool.true_and]
  unfold rangR
  rw [upTo_at 45 [] s (dig_no45 hsd), past_at 45 [] s (dig_no45 hsd), num_of hs0 hs9 hsd hsn, List.contains_iff_mem.2 (by simp)]
  rfl
theorem rang_none (t : List UInt8) : rangB (pBytes ++ 45 :: t) = false := by
  have h1 : pBytes.isPrefixOf (pBytes ++ 45 :: t) = true := List.isPrefixOf_iff_prefix.2 (List.prefix_append _ _)
  have h2 : (pBytes ++ 45 :: t).drop 6 = 45 :: t := List.drop_left' rfl
  unfold rangB
  rw [h1, h2, Bool.true_and]
  unfold rangR
  rw [show upTo 45 (45 :: t) = [] from upTo_at 45 t [] (by simp)]
  simp [Ext.numB]
theorem rang_bare {s : List UInt8} (hs0 : s ≠ []) (hsd : s.all Ext.isDig = true) (t : List UInt8) : rangB (s ++ t) = false := by
  obtain ⟨c, r, rfl⟩ := List.exists_cons_of_ne_nil hs0
  have hc : Ext.isDig c = true := by
    have := List.all_eq_true.1 hsd c (List.mem_cons_self ..)
    exact this
  have : pBytes.isPrefixOf (c :: r ++ t) = false := by
    rw [List.cons_append]
    unfold pBytes
    rw [List.isPrefixOf]
    have : ((98 : UInt8) == c) = false := by
      rw [beq_eq_false_iff_ne]
      rintro rfl
      exact absurd hc (by decide)
    rw [this, Bool.false_and]
  unfold rangB
  rw [this, Bool.false_and]
end Go.Proofs.YtikhboebmmmopaaGreatDoor.Plain
namespace Go.Proofs.YtikhboebmmmopaaGreatDoor.Ext
open Go.RowKit Go.Proofs.YtikhboebmmmopaaGreatDoorW.PrintWords
set_option maxRecDepth 100000 in
theorem run_put (W : World) (B : Nat) (es : Array MapEntry) (clock : Nat) (k : ByteArray) (v : Value) (h : W.heap[B]? = some (.map es clock)) (hk : Instr.findNow .string (.string k) es.toList 0 = some none) :
    (Instr.mapUpdate 38 (.map (some B)) (.string k) v).run Tryz.prog W = .ok () (W.putObj B (.map (es.push { key := .string k, val := v, born := clock }) (clock + 1))) := by
  have u40 := run_underlying Tryz.underlying38
  have hc : (Instr.checkKey false 10000 9 (.string k)).run Tryz.prog W = .ok () W := Go.MapKept.run_checkKey (n := 9999) (k := .string k) Tryz.underlying9 (by simp [MapKept.IsKey]) false
  have hf : (Instr.findKey 9 (.string k) es.toList).run Tryz.prog W = .ok none W := Go.MapKept.run_findKey Tryz.underlying9 hk
  have hg : (getObj B).run Tryz.prog W = .ok (.map es clock) W := by simp [getObj, Sem.run, h]
  have hs : ∀ o, (setObj B o).run Tryz.prog W = .ok () (W.putObj B o) := fun o => by simp [setObj, Sem.run, h, World.putObj]
  unfold Instr.mapUpdate
  simp [Sem.run_bind, u40, hg, hc, hf, hs, Result.andThen]
set_option maxRecDepth 100000 in
theorem run_look (W : World) (B : Nat) (es : Array MapEntry) (clock : Nat) (k : ByteArray) (r : Option (Nat × Value)) (h : W.heap[B]? = some (.map es clock)) (hk : Instr.findNow .string (.string k) es.toList 0 = some r) :
    (Instr.lookup 38 (.map (some B)) (.string k) true).run Tryz.prog W = .ok (.tuple #[match r with | some x => x.2 | none => .nilFunc, .bool r.isSome]) W := by
  have u40 := run_underlying Tryz.underlying38
  have hz : (zeroValue 23).run Tryz.prog W = .ok .nilFunc W := Tryz.zeroValue23 W
  have hc : ∀ b, (Instr.checkKey b 10000 9 (.string k)).run Tryz.prog W = .ok () W := fun b => Go.MapKept.run_checkKey (n := 9999) (k := .string k) Tryz.underlying9 (by simp [MapKept.IsKey]) b
  have hf : (Instr.findKey 9 (.string k) es.toList).run Tryz.prog W = .ok r W := Go.MapKept.run_findKey Tryz.underlying9 hk
  have hg : (getObj B).run Tryz.prog W = .ok (.map es clock) W := by simp [getObj, Sem.run, h]
  unfold Instr.lookup
  cases r <;> simp [Sem.run_bind, u40, hg, hc, hf, hz, Result.andThen]
theorem without_any (g : Nat) (w : World) :
    Calls Tryz.prog 37 #[.func (.func g) #[] #[]] w fun e w' => e = .returned (.func (.func 52) #[] #[.pointer (some ⟨w.heap.size, 0, none⟩)]) ∧ w' = w.alloc (.cells #[.func (.func g) #[] #[]] 46) := by
  go_enter Tryz.func37, Tryz.ntmps37
  go_wp2
  go_ret
  exact ⟨rfl, rfl⟩
theorem put_same (W : World) (B : Nat) (o o' : Obj) (h : W.heap[B]? = some o) : (W.putObj B o').heap[B]? = some o' := by
  have hlt : B < W.heap.size := (Array.getElem?_eq_some_iff.1 h).1
  simp [World.putObj, hlt]
theorem put_other (W : World) (B k : Nat) (o' : Obj) (h : k ≠ B) : (W.putObj B o').heap[k]? = W.heap[k]? := by
  simp [World.putObj, Ne.symm h]
theorem below_put {b : Nat} {w W : World} (h : Below b w W) {B : Nat} (hB : b ≤ B) (o : Obj) : Below b w (W.putObj B o) :=
  ⟨h.os, h.tape, h.output, by simpa [World.putObj] using h.size, fun k hk => (put_other W B k o (by omega)).trans (h.block k hk)⟩
def entries (w : World) : Array MapEntry := #[{ key := .string ⟨#[97, 99, 99, 101, 112, 116]⟩, val := Value.func (Fn.func 52) #[] #[.pointer (some ⟨w.heap.size + 1 + 1, 0, none⟩)], born := 0 }, { key := .string ⟨#[97, 99, 99, 101, 112, 116, 45, 108, 97, 110, 103, 117, 97, 103, 101]⟩, val := Value.func (Fn.func 52) #[] #[.pointer (some ⟨w.heap.size, 0, none⟩)], born := 1 }, { key := .string ⟨#[99, 111, 110, 116, 101, 110, 116, 45, 108, 97, 110, 103, 117, 97, 103, 101]⟩, val := Value.func (Fn.func 52) #[] #[.pointer (some ⟨w.heap.size, 0, none⟩)], born := 2 }, { key := .string ⟨#[99, 111, 110, 116, 101, 110, 116, 45, 116, 121, 112, 101]⟩, val := Value.func (Fn.func 40) #[] #[], born := 3 }, { key := .string ⟨#[114, 97, 110, 103, 101]⟩, val := Value.func (Fn.func 41) #[] #[], born := 4 }]
set_option maxRecDepth 100000 in
theorem values_any (w : World) :
    Calls Tryz.prog 23 #[] w fun e w' => e = .returned (.map (some (w.heap.size + 1))) ∧ w'.heap[w.heap.size + 1]? = some (.map (entries w) 5) ∧ w'.heap[w.heap.size]? = some (.cells #[Value.func (Fn.func 38) #[] #[]] 46 (0, 0)) ∧ w'.heap[w.heap.size + 1 + 1]? = some (.cells #[Value.func (Fn.func 39) #[] #[]] 46 (0, 0)) ∧ Below w.heap.size w w' := by
  have hmm := @run_makeMap Tryz.prog
  go_enter Tryz.func23, Tryz.ntmps23
  go_wp2_with fail
  refine (without_any _ _).mono ?_
  rintro e w1 ⟨rfl, rfl⟩
  go_wp2_with fail
  refine (without_any _ _).mono ?_
  rintro e w1 ⟨rfl, rfl⟩
  go_wp2_with fail
  obtain ⟨W0, hW0⟩ : ∃ W, W = ((w.alloc (Obj.cells #[Value.func (Fn.func 38) #[] #[]] 46)).alloc (Obj.map #[] 0)).alloc (Obj.cells #[Value.func (Fn.func 39) #[] #[]] 46) := ⟨_, rfl⟩
  rw [← hW0]
  have hB0 : W0.heap[w.heap.size + 1]? = some (.map #[] 0) := by
    rw [hW0]
    refine (Below.heap_alloc _ _ _ (by simp)).trans ?_
    have := World.alloc_heap_new (w.alloc (Obj.cells #[Value.func (Fn.func 38) #[] #[]] 46)) (Obj.map #[] 0)
    rwa [World.size_alloc] at this
  have hu0 : W0.heap[w.heap.size]? = some (.cells #[Value.func (Fn.func 38) #[] #[]] 46 (0, 0)) := by
    rw [hW0]
    exact (Below.heap_alloc _ _ _ (by simp; omega)).trans ((Below.heap_alloc _ _ _ (by simp)).trans (World.alloc_heap_new w _))
  have ho0 : W0.heap[w.heap.size + 1 + 1]? = some (.cells #[Value.func (Fn.func 39) #[] #[]] 46 (0, 0)) := by
    rw [hW0]
    have := World.alloc_heap_new ((w.alloc (Obj.cells #[Value.func (Fn.func 38) #[] #[]] 46)).alloc (Obj.map #[] 0)) (Obj.cells #[Value.func (Fn.func 39) #[] #[]] 46)
    rwa [World.size_alloc, World.size_alloc] at this
  have hb0 : Below w.heap.size w W0 := by
    rw [hW0]
    exact (((Below.refl _ w).alloc (Nat.le_refl _) _).alloc (by simp) _).alloc (by simp; omega) _
  have HU0 := Aside0.mk hu0
  have HO0 := Aside0.mk ho0
  have HB0 := Aside0.mk hb0
  clear hW0 hu0 ho0 hb0
  have hp0 := run_put W0 (w.heap.size + 1) #[] 0 ⟨#[97, 99, 99, 101, 112, 116]⟩ (Value.func (Fn.func 52) #[] #[.pointer (some ⟨w.heap.size + 1 + 1, 0, none⟩)]) hB0 (by rfl)
  obtain ⟨W1, hW1⟩ : ∃ W, W = W0.putObj (w.heap.size + 1) (.map #[{ key := .string ⟨#[97, 99, 99, 101, 112, 116]⟩, val := Value.func (Fn.func 52) #[] #[.pointer (some ⟨w.heap.size + 1 + 1, 0, none⟩)], born := 0 }] 1) := ⟨_, rfl⟩
  have hB1 : W1.heap[w.heap.size + 1]? = some (.map #[{ key := .string ⟨#[97, 99, 99, 101, 112, 116]⟩, val := Value.func (Fn.func 52) #[] #[.pointer (some ⟨w.heap.size + 1 + 1, 0, none⟩)], born := 0 }] 1) := by rw [hW1]; exact put_same _ _ _ _ hB0
  replace hp0 : (Instr.mapUpdate 38 (.map (some (w.heap.size + 1))) (.string ⟨#[97, 99, 99, 101, 112, 116]⟩) (Value.func (Fn.func 52) #[] #[.pointer (some ⟨w.heap.size + 1 + 1, 0, none⟩)])).run Tryz.prog W0 = .ok () W1 := by rw [hW1]; exact hp0
  have HU1 := Aside0.mk (show W1.heap[w.heap.size]? = some (.cells #[Value.func (Fn.func 38) #[] #[]] 46 (0, 0)) by rw [hW1, put_other _ _ _ _ (by omega)]; exact HU0.out)
  have HO1 := Aside0.mk (show W1.heap[w.heap.size + 1 + 1]? = some (.cells #[Value.func (Fn.func 39) #[] #[]] 46 (0, 0)) by rw [hW1, put_other _ _ _ _ (by omega)]; exact HO0.out)
  have HB1 := Aside0.mk (show Below w.heap.size w W1 by rw [hW1]; exact below_put HB0.out (by omega) _)
  clear hW1 HU0 HO0 HB0
  rw [hp0]
  simp only [Result.andThen]
  rw [Oper.upon_skip]
  clear hp0
  go_wp2_with fail
  have hp1 := run_put W1 (w.heap.size + 1) #[{ key := .string ⟨#[97, 99, 99, 101, 112, 116]⟩, val := Value.func (Fn.func 52) #[] #[.pointer (some ⟨w.heap.size + 1 + 1, 0, none⟩)], born := 0 }] 1 ⟨#[97, 99, 99, 101, 112, 116, 45, 108, 97, 110, 103, 117, 97, 103, 101]⟩ (Value.func (Fn.func 52) #[] #[.pointer (some ⟨w.heap.size, 0, none⟩)]) hB1 (by rfl)
  obtain ⟨W2, hW2⟩ : ∃ W, W = W1.putObj (w.heap.size + 1) (.map #[{ key := .string ⟨#[97, 99, 99, 101, 112, 116]⟩, val := Value.func (Fn.func 52) #[] #[.pointer (some ⟨w.heap.size + 1 + 1, 0, none⟩)], born := 0 }, { key := .string ⟨#[97, 99, 99, 101, 112, 116, 45, 108, 97, 110, 103, 117, 97, 103, 101]⟩, val := Value.func (Fn.func 52) #[] #[.pointer (some ⟨w.heap.size, 0, none⟩)], born := 1 }] 2) := ⟨_, rfl⟩
  have hB2 : W2.heap[w.heap.size + 1]? = some (.map #[{ key := .string ⟨#[97, 99, 99, 101, 112, 116]⟩, val := Value.func (Fn.func 52) #[] #[.pointer (some ⟨w.heap.size + 1 + 1, 0, none⟩)], born := 0 }, { key := .string ⟨#[97, 99, 99, 101, 112, 116, 45, 108, 97, 110, 103, 117, 97, 103, 101]⟩, val := Value.func (Fn.func 52) #[] #[.pointer (some ⟨w.heap.size, 0, none⟩)], born := 1 }] 2) := by rw [hW2]; exact put_same _ _ _ _ hB1
  replace hp1 : (Instr.mapUpdate 38 (.map (some (w.heap.size + 1))) (.string ⟨#[97, 99, 99, 101, 112, 116, 45, 108, 97, 110, 103, 117, 97, 103, 101]⟩) (Value.func (Fn.func 52) #[] #[.pointer (some ⟨w.heap.size, 0, none⟩)])).run Tryz.prog W1 = .ok () W2 := by rw [hW2]; exact hp1
  have HU2 := Aside0.mk (show W2.heap[w.heap.size]? = some (.cells #[Value.func (Fn.func 38) #[] #[]] 46 (0, 0)) by rw [hW2, put_other _ _ _ _ (by omega)]; exact HU1.out)
  have HO2 := Aside0.mk (show W2.heap[w.heap.size + 1 + 1]? = some (.cells #[Value.func (Fn.func 39) #[] #[]] 46 (0, 0)) by rw [hW2, put_other _ _ _ _ (by omega)]; exact HO1.out)
  have HB2 := Aside0.mk (show Below w.heap.size w W2 by rw [hW2]; exact below_put HB1.out (by omega) _)
  clear hW2 HU1 HO1 HB1
  rw [hp1]
  simp only [Result.andThen]
  rw [Oper.upon_skip]
  clear hp1
  go_wp2_with fail
  have hp2 := run_put W2 (w.heap.size + 1) #[{ key := .string ⟨#[97, 99, 99, 101, 112, 116]⟩, val := Value.func (Fn.func 52) #[] #[.pointer (some ⟨w.heap.size + 1 + 1, 0, none⟩)], born := 0 }, { key := .string ⟨#[97, 99, 99, 101, 112, 116, 45, 108, 97, 110, 103, 117, 97, 103, 101]⟩, val := Value.func (Fn.func 52) #[] #[.pointer (some ⟨w.heap.size, 0, none⟩)], born := 1 }] 2 ⟨#[99, 111, 110, 116, 101, 110, 116, 45, 108, 97, 110, 103, 117, 97, 103, 101]⟩ (Value.func (Fn.func 52) #[] #[.pointer (some ⟨w.heap.size, 0, none⟩)]) hB2 (by rfl)
  obtain ⟨W3, hW3⟩ : ∃ W, W = W2.putObj (w.heap.size + 1) (.map #[{ key := .string ⟨#[97, 99, 99, 101, 112, 116]⟩, val := Value.func (Fn.func 52) #[] #[.pointer (some ⟨w.heap.size + 1 + 1, 0, none⟩)], born := 0 }, { key := .string ⟨#[97, 99, 99, 101, 112, 116, 45, 108, 97, 110, 103, 117, 97, 103, 101]⟩, val := Value.func (Fn.func 52) #[] #[.pointer (some ⟨w.heap.size, 0, none⟩)], born := 1 }, { key := .string ⟨#[99, 111, 110, 116, 101, 110, 116, 45, 108, 97, 110, 103, 117, 97, 103, 101]⟩, val := Value.func (Fn.func 52) #[] #[.pointer (some ⟨w.heap.size, 0, none⟩)], born := 2 }] 3) := ⟨_, rfl⟩
  have hB3 : W3.heap[w.heap.size + 1]? = some (.map #[{ key := .string ⟨#[97, 99, 99, 101, 112, 116]⟩, val := Value.func (Fn.func 52) #[] #[.pointer (some ⟨w.heap.size + 1 + 1, 0, none⟩)], born := 0 }, { key := .string ⟨#[97, 99, 99, 101, 112, 116, 45, 108, 97, 110, 103, 117, 97, 103, 101]⟩, val := Value.func (Fn.func 52) #[] #[.pointer (some ⟨w.heap.size, 0, none⟩)], born := 1 }, { key := .string ⟨#[99, 111, 110, 116, 101, 110, 116, 45, 108, 97, 110, 103, 117, 97, 103, 101]⟩, val := Value.func (Fn.func 52) #[] #[.pointer (some ⟨w.heap.size, 0, none⟩)], born := 2 }] 3) := by rw [hW3]; exact put_same _ _ _ _ hB2
  replace hp2 : (Instr.mapUpdate 38 (.map (some (w.heap.size + 1))) (.string ⟨#[99, 111, 110, 116, 101, 110, 116, 45, 108, 97, 110, 103, 117, 97, 103, 101]⟩) (Value.func (Fn.func 52) #[] #[.pointer (some ⟨w.heap.size, 0, none⟩)])).run Tryz.prog W2 = .ok () W3 := by rw [hW3]; exact hp2
  have HU3 := Aside0.mk (show W3.heap[w.heap.size]? = some (.cells #[Value.func (Fn.func 38) #[] #[]] 46 (0, 0)) by rw [hW3, put_other _ _ _ _ (by omega)]; exact HU2.out)
  have HO3 := Aside0.mk (show W3.heap[w.heap.size + 1 + 1]? = some (.cells #[Value.func (Fn.func 39) #[] #[]] 46 (0, 0)) by rw [hW3, put_other _ _ _ _ (by omega)]; exact HO2.out)
  have HB3 := Aside0.mk (show Below w.heap.size w W3 by rw [hW3]; exact below_put HB2.out (by omega) _)
  clear hW3 HU2 HO2 HB2
  rw [hp2]
  simp only [Result.andThen]
  rw [Oper.upon_skip]
  clear hp2
  go_wp2_with fail
  have hp3 := run_put W3 (w.heap.size + 1) #[{ key := .string ⟨#[97, 99, 99, 101, 112, 116]⟩, val := Value.func (Fn.func 52) #[] #[.pointer (some ⟨w.heap.size + 1 + 1, 0, none⟩)], born := 0 }, { key := .string ⟨#[97, 99, 99, 101, 112, 116, 45, 108, 97, 110, 103, 117, 97, 103, 101]⟩, val := Value.func (Fn.func 52) #[] #[.pointer (some ⟨w.heap.size, 0, none⟩)], born := 1 }, { key := .string ⟨#[99, 111, 110, 116, 101, 110, 116, 45, 108, 97, 110, 103, 117, 97, 103, 101]⟩, val := Value.func (Fn.func 52) #[] #[.pointer (some ⟨w.heap.size, 0, none⟩)], born := 2 }] 3 ⟨#[99, 111, 110, 116, 101, 110, 116, 45, 116, 121, 112, 101]⟩ (Value.func (Fn.func 40) #[] #[]) hB3 (by rfl)
  obtain ⟨W4, hW4⟩ : ∃ W, W = W3.putObj (w.heap.size + 1) (.map #[{ key := .string ⟨#[97, 99, 99, 101, 112, 116]⟩, val := Value.func (Fn.func 52) #[] #[.pointer (some ⟨w.heap.size + 1 + 1, 0, none⟩)], born := 0 }, { key := .string ⟨#[97, 99, 99, 101, 112, 116, 45, 108, 97, 110, 103, 117, 97, 103, 101]⟩, val := Value.func (Fn.func 52) #[] #[.pointer (some ⟨w.heap.size, 0, none⟩)], born := 1 }, { key := .string ⟨#[99, 111, 110, 116, 101, 110, 116, 45, 108, 97, 110, 103, 117, 97, 103, 101]⟩, val := Value.func (Fn.func 52) #[] #[.pointer (some ⟨w.heap.size, 0, none⟩)], born := 2 }, { key := .string ⟨#[99, 111, 110, 116, 101, 110, 116, 45, 116, 121, 112, 101]⟩, val := Value.func (Fn.func 40) #[] #[], born := 3 }] 4) := ⟨_, rfl⟩
  have hB4 : W4.heap[w.heap.size + 1]? = some (.map #[{ key := .string ⟨#[97, 99, 99, 101, 112, 116]⟩, val := Value.func (Fn.func 52) #[] #[.pointer (some ⟨w.heap.size + 1 + 1, 0, none⟩)], born := 0 }, { key := .string ⟨#[97, 99, 99, 101, 112, 116, 45, 108, 97, 110, 103, 117, 97, 103, 101]⟩, val := Value.func (Fn.func 52) #[] #[.pointer (some ⟨w.heap.size, 0, none⟩)], born := 1 }, { key := .string ⟨#[99, 111, 110, 116, 101, 110, 116, 45, 108, 97, 110, 103, 117, 97, 103, 101]⟩, val := Value.func (Fn.func 52) #[] #[.pointer (some ⟨w.heap.size, 0, none⟩)], born := 2 }, { key := .string ⟨#[99, 111, 110, 116, 101, 110, 116, 45, 116, 121, 112, 101]⟩, val := Value.func (Fn.func 40) #[] #[], born := 3 }] 4) := by rw [hW4]; exact put_same _ _ _ _ hB3
  replace hp3 : (Instr.mapUpdate 38 (.map (some (w.heap.size + 1))) (.string ⟨#[99, 111, 110, 116, 101, 110, 116, 45, 116, 121, 112, 101]⟩) (Value.func (Fn.func 40) #[] #[])).run Tryz.prog W3 = .ok () W4 := by rw [hW4]; exact hp3
  have HU4 := Aside0.mk (show W4.heap[w.heap.size]? = some (.cells #[Value.func (Fn.func 38) #[] #[]] 46 (0, 0)) by rw [hW4, put_other _ _ _ _ (by omega)]; exact HU3.out)
  have HO4 := Aside0.mk (show W4.heap[w.heap.size + 1 + 1]? = some (.cells #[Value.func (Fn.func 39) #[] #[]] 46 (0, 0)) by rw [hW4, put_other _ _ _ _ (by omega)]; exact HO3.out)
  have HB4 := Aside0.mk (show Below w.heap.size w W4 by rw [hW4]; exact below_put HB3.out (by omega) _)
  clear hW4 HU3 HO3 HB3
  rw [hp3]
  simp only [Result.andThen]
  rw [Oper.upon_skip]
  clear hp3
  go_wp2_with fail
  have hp4 := run_put W4 (w.heap.size + 1) #[{ key := .string ⟨#[97, 99, 99, 101, 112, 116]⟩, val := Value.func (Fn.func 52) #[] #[.pointer (some ⟨w.heap.size + 1 + 1, 0, none⟩)], born := 0 }, { key := .string ⟨#[97, 99, 99, 101, 112, 116, 45, 108, 97, 110, 103, 117, 97, 103, 101]⟩, val := Value.func (Fn.func 52) #[] #[.pointer (some ⟨w.heap.size, 0, none⟩)], born := 1 }, { key := .string ⟨#[99, 111, 110, 116, 101, 110, 116, 45, 108, 97, 110, 103, 117, 97, 103, 101]⟩, val := Value.func (Fn.func 52) #[] #[.pointer (some ⟨w.heap.size, 0, none⟩)], born := 2 }, { key := .string ⟨#[99, 111, 110, 116, 101, 110, 116, 45, 116, 121, 112, 101]⟩, val := Value.func (Fn.func 40) #[] #[], born := 3 }] 4 ⟨#[114, 97, 110, 103, 101]⟩ (Value.func (Fn.func 41) #[] #[]) hB4 (by rfl)
  obtain ⟨W5, hW5⟩ : ∃ W, W = W4.putObj (w.heap.size + 1) (.map #[{ key := .string ⟨#[97, 99, 99, 101, 112, 116]⟩, val := Value.func (Fn.func 52) #[] #[.pointer (some ⟨w.heap.size + 1 + 1, 0, none⟩)], born := 0 }, { key := .string ⟨#[97, 99, 99, 101, 112, 116, 45, 108, 97, 110, 103, 117, 97, 103, 101]⟩, val := Value.func (Fn.func 52) #[] #[.pointer (some ⟨w.heap.size, 0, none⟩)], born := 1 }, { key := .string ⟨#[99, 111, 110, 116, 101, 110, 116, 45, 108, 97, 110, 103, 117, 97, 103, 101]⟩, val := Value.func (Fn.func 52) #[] #[.pointer (some ⟨w.heap.size, 0, none⟩)], born := 2 }, { key := .string ⟨#[99, 111, 110, 116, 101, 110, 116, 45, 116, 121, 112, 101]⟩, val := Value.func (Fn.func 40) #[] #[], born := 3 }, { key := .string ⟨#[114, 97, 110, 103, 101]⟩, val := Value.func (Fn.func 41) #[] #[], born := 4 }] 5) := ⟨_, rfl⟩
  have hB5 : W5.heap[w.heap.size + 1]? = some (.map #[{ key := .string ⟨#[97, 99, 99, 101, 112, 116]⟩, val := Value.func (Fn.func 52) #[] #[.pointer (some ⟨w.heap.size + 1 + 1, 0, none⟩)], born := 0 }, { key := .string ⟨#[97, 99, 99, 101, 112, 116, 45, 108, 97, 110, 103, 117, 97, 103, 101]⟩, val := Value.func (Fn.func 52) #[] #[.pointer (some ⟨w.heap.size, 0, none⟩)], born := 1 }, { key := .string ⟨#[99, 111, 110, 116, 101, 110, 116, 45, 108, 97, 110, 103, 117, 97, 103, 101]⟩, val := Value.func (Fn.func 52) #[] #[.pointer (some ⟨w.heap.size, 0, none⟩)], born := 2 }, { key := .string ⟨#[99, 111, 110, 116, 101, 110, 116, 45, 116, 121, 112, 101]⟩, val := Value.func (Fn.func 40) #[] #[], born := 3 }, { key := .string ⟨#[114, 97, 110, 103, 101]⟩, val := Value.func (Fn.func 41) #[] #[], born := 4 }] 5) := by rw [hW5]; exact put_same _ _ _ _ hB4
  replace hp4 : (Instr.mapUpdate 38 (.map (some (w.heap.size + 1))) (.string ⟨#[114, 97, 110, 103, 101]⟩) (Value.func (Fn.func 41) #[] #[])).run Tryz.prog W4 = .ok () W5 := by rw [hW5]; exact hp4
  have HU5 := Aside0.mk (show W5.heap[w.heap.size]? = some (.cells #[Value.func (Fn.func 38) #[] #[]] 46 (0, 0)) by rw [hW5, put_other _ _ _ _ (by omega)]; exact HU4.out)
  have HO5 := Aside0.mk (show W5.heap[w.heap.size + 1 + 1]? = some (.cells #[Value.func (Fn.func 39) #[] #[]] 46 (0, 0)) by rw [hW5, put_other _ _ _ _ (by omega)]; exact HO4.out)
  have HB5 := Aside0.mk (show Below w.heap.size w W5 by rw [hW5]; exact below_put HB4.out (by omega) _)
  clear hW5 HU4 HO4 HB4
  rw [hp4]
  simp only [Result.andThen]
  rw [Oper.upon_skip]
  clear hp4
  go_wp2_with fail
  go_ret
  exact ⟨rfl, hB5, HU5.out, HO5.out, HB5.out⟩
end Go.Proofs.YtikhboebmmmopaaGreatDoor.Ext
namespace Go.Proofs.YtikhboebmmmopaaGreatDoor.Ext
open Go.RowKit Go.Proofs.YtikhboebmmmopaaGreatDoorW.PrintWords
/-- a function value that tells p of each byte; it may lay blocks -/
def TellsB (g : Nat) (lb : Array Value) (p : Int → Prop) (r : Int → Bool) (w : World) : Prop :=
  ∀ (W : World) (x : Int), p x → Below w.heap.size w W → Calls Tryz.prog g (#[.int .u8 x] ++ lb) W fun e w' => e = .returned (.bool (r x)) ∧ Below W.heap.size W w'

theorem take_anyB {p : Int → Bool} (zs : List Int) (i : Nat) (h : i < zs.length) : (zs.take (i + 1)).any p = ((zs.take i).any p || p zs[i]) := by
  rw [List.take_succ_eq_append_getElem h, List.any_append]
  simp only [List.any_cons, List.any_nil, Bool.or_false]

set_option maxHeartbeats 1000000 in
theorem indexByteFunc_any (g : Nat) (lb : Array Value) (ok : Int → Prop) (p : Int → Bool) (eg : ∀ args w, (callFunc g args).run Tryz.prog w = .ok (.enter g args) w) (A : Option Addr) (c : Nat) (zs : List Int) (w : World)
    (hp : TellsB g lb ok p w) (hz : ∀ x ∈ zs, ok x) (hr : Kd.C (Kd.int .u8) w A zs.length zs) :
    Calls Tryz.prog 63 #[.slice A zs.length c, .func (.func g) #[] lb] w fun e w' => (∃ n : Int, e = .returned (.int .i64 n) ∧ decide (0 ≤ n) = zs.any p) ∧ Below w.heap.size w w' := by
  have HR := Aside0.mk hr
  have HM := Aside0.mk (Kd.C_max hr)
  have HP := Aside0.mk hp
  have HZ := Aside0.mk hz
  clear hr hp hz
  go_enter Tryz.func63, Tryz.ntmps63
  go_wp2
  go_loopg [8] zs.length (fun gk v wx => ∃ i : Nat, i + gk = zs.length ∧ v = .int .i64 i ∧ Aside0 ((zs.take i).any p = false) ∧ Below w.heap.size w wx)
  case atStart => exact ⟨0, by omega, rfl, ⟨rfl⟩, Below.refl _ _⟩
  case round =>
    obtain ⟨i, hi, rfl, HN, HB⟩ := hrel
    have hmx := HM.out
    cases gk with
    | zero =>
      obtain rfl : i = zs.length := by omega
      clear hi
      have hfin : zs.any p = false := by
        have := HN.out
        rwa [List.take_of_length_le (Nat.le_refl _)] at this
      have HF := Aside0.mk hfin
      clear hfin
      go_wp2
      go_ret
      exact ⟨⟨-1, rfl, by rw [HF.out]; rfl⟩, HB⟩
    | succ gk =>
      have hlt : i < zs.length := by omega
      have h0 : (0 : Int) ≤ (i : Int) := by omega
      have h1 : (i : Int) < (zs.length : Int) := by omega
      obtain ⟨ad, e, hx⟩ := Kd.at_int (Kd.C_below HR.out HB) (i : Int) h0 h1
      cases e
      have hrd : rd zs (i : Int) = zs[i] := by
        unfold rd
        rw [Int.toNat_natCast, List.getD, List.getElem?_eq_getElem hlt]
        rfl
      rw [hrd, Int.toNat_natCast] at hx
      obtain ⟨x, hxx⟩ : ∃ x, x = zs[i] := ⟨_, rfl⟩
      rw [← hxx] at hx
      have hox : ok x := HZ.out x (by rw [hxx]; exact List.getElem_mem hlt)
      have HX := Aside0.mk hxx
      have HI := Aside0.mk hi
      have HO := Aside0.mk hox
      clear hxx hrd hi hox
      go_wp2_with fail
      refine (HP.out wr x HO.out HB).mono ?_
      rintro e W1 ⟨rfl, hb1⟩
      have HB1 := below_then HB HB.size hb1
      clear hb1
      cases hpx : p x with
      | true =>
        have HPX := Aside0.mk hpx
        clear hpx
        go_wp2
        go_ret
        refine ⟨⟨(i : Int), rfl, ?_⟩, HB1⟩
        rw [decide_eq_true (by omega)]
        exact (List.any_eq_true.2 ⟨x, by rw [HX.out]; exact List.getElem_mem hlt, HPX.out⟩).symm
      | false =>
        have HPX := Aside0.mk hpx
        clear hpx
        go_wp2
        go_roundg gk
        case measure => omega
        case rel =>
          refine ⟨i + 1, by have := HI.out; omega, by go_num, ⟨?_⟩, HB1⟩
          rw [take_anyB zs i hlt, HN.out, ← HX.out, HPX.out]
          rfl

set_option maxHeartbeats 1000000 in
theorem containsByteFunc_any (g : Nat) (lb : Array Value) (ok : Int → Prop) (p : Int → Bool) (eg : ∀ args w, (callFunc g args).run Tryz.prog w = .ok (.enter g args) w) (A : Option Addr) (c : Nat) (zs : List Int) (w : World)
    (hp : TellsB g lb ok p w) (hz : ∀ x ∈ zs, ok x) (hr : Kd.C (Kd.int .u8) w A zs.length zs) :
    Calls Tryz.prog 53 #[.slice A zs.length c, .func (.func g) #[] lb] w fun e w' => e = .returned (.bool (zs.any p)) ∧ Below w.heap.size w w' := by
  have HC := Aside0.mk (indexByteFunc_any g lb ok p eg A c zs w hp hz hr)
  clear hr hp hz
  go_enter Tryz.func53, Tryz.ntmps53
  go_wp2_with fail
  refine HC.out.mono ?_
  rintro e W1 ⟨⟨n, rfl, hn⟩, hb1⟩
  have HN := Aside0.mk hn
  clear hn HC
  by_cases h0 : 0 ≤ n
  · go_wp2
    go_ret
    refine ⟨?_, hb1⟩
    rw [← HN.out, decide_eq_true h0]
    rfl
  · go_wp2
    go_ret
    refine ⟨?_, hb1⟩
    rw [← HN.out, decide_eq_false (by omega)]
    rfl

end Go.Proofs.YtikhboebmmmopaaGreatDoor.Ext
namespace Go.Proofs.YtikhboebmmmopaaGreatDoor.Ext
open Go.RowKit Go.Proofs.YtikhboebmmmopaaGreatDoorW.PrintWords

set_option maxHeartbeats 1000000 in
theorem without1_any (g : Nat) (p : Int → Bool) (eg : ∀ args w, (callFunc g args).run Tryz.prog w = .ok (.enter g args) w) (a : Addr) (s : ByteArray) (w : World) (hs : s.size ≤ 9223372036854775807)
    (hc : w.cell? a = some (.func (.func g) #[] #[])) (hp : TellsB g #[] (fun x => 0 ≤ x ∧ x < 256) p w) :
    Calls Tryz.prog 52 #[.string s, .pointer (some a)] w fun e w' => e = .returned (.bool (!(ints s.data.toList).any p)) ∧ Below w.heap.size w w' := by
  have hcv := fun W : World => Lib.run_convert_string_bytes (P := Tryz.prog) W 9 58 5 s Tryz.underlying9 Tryz.underlying58 Tryz.underlying5
  have HP := Aside0.mk hp
  have hb0 := below_bytes w s 5
  have hr0 := bys_new w s 5
  have hc0 : (Lib.bytesWorld w 5 s).cell? a = some (.func (.func g) #[] #[]) := pw_cell_below hb0 hc
  have hlen : (ints s.data.toList).length = s.size := by rw [ints_length]; exact (Lib.size_eq s).symm
  have hC : Kd.C (Kd.int .u8) (Lib.bytesWorld w 5 s) (some ⟨w.heap.size, 0, none⟩) (ints s.data.toList).length (ints s.data.toList) :=
    Kd.C_of_reads (d := 0) ⟨rfl, by rw [hlen]; exact hs, fun _ => ⟨_, rfl, fun j hj => by rw [add_plain]; exact (hr0 j hj).1⟩⟩
  have hz : ∀ x ∈ ints s.data.toList, 0 ≤ x ∧ x < 256 := by
    intro x hx
    obtain ⟨b, _, rfl⟩ := List.mem_map.1 hx
    have := UInt8.toNat_lt b
    exact ⟨by omega, by omega⟩
  have HC := Aside0.mk hC
  have HZ := Aside0.mk hz
  have HB0 := Aside0.mk hb0
  have HL := Aside0.mk hlen
  clear hp hC hz hb0 hr0 hlen
  go_enter Tryz.func52, Tryz.ntmps52
  go_wp2_with fail
  have hcall := containsByteFunc_any g #[] (fun x => 0 ≤ x ∧ x < 256) p eg (some ⟨w.heap.size, 0, none⟩) (grownCap w s.size 0 5) (ints s.data.toList) (Lib.bytesWorld w 5 s) (fun W x hx hb => HP.out W x hx (below_then HB0.out HB0.out.size hb)) HZ.out HC.out
  rw [HL.out] at hcall
  refine hcall.mono ?_
  rintro e w1 ⟨rfl, hb1⟩
  have HB1 := Aside0.mk (below_then HB0.out HB0.out.size hb1)
  clear hb1 hcall HP HC HZ hcv
  go_wp2
  go_ret
  exact ⟨rfl, HB1.out⟩
end Go.Proofs.YtikhboebmmmopaaGreatDoor.Ext
namespace Go.Proofs.YtikhboebmmmopaaGreatDoor.Ext
open Go.RowKit Go.Proofs.YtikhboebmmmopaaGreatDoorW.PrintWords

theorem byte_of {x : Int} (h0 : 0 ≤ x) (h1 : x < 256) : ∃ c : UInt8, x = (c.toNat : Int) ∧ x.toNat.toUInt8 = c := by
  refine ⟨x.toNat.toUInt8, ?_, rfl⟩
  have : (x.toNat.toUInt8).toNat = x.toNat % 256 := by simp
  rw [this]
  omega
theorem odd_as (c : UInt8) : Plain.oddB c = ((decide ((c.toNat : Int) < 32) && !decide ((c.toNat : Int) = 9)) || (decide ((c.toNat : Int) = 127) || decide (0 ≤ Lib.indexByte [34, 40, 41, 58, 60, 62, 63, 64, 91, 92, 93, 123, 125] c))) := by
  have := Plain.all_bytes (p := fun c => Plain.oddB c == ((decide ((c.toNat : Int) < 32) && !decide ((c.toNat : Int) = 9)) || (decide ((c.toNat : Int) = 127) || decide (0 ≤ Lib.indexByte [34, 40, 41, 58, 60, 62, 63, 64, 91, 92, 93, 123, 125] c)))) (by decide +kernel) c
  simpa using this
set_option maxHeartbeats 1000000 in
theorem odd_any (c : UInt8) (w : World) :
    Calls Tryz.prog 39 #[.int .u8 (c.toNat : Int)] w fun e w' => e = .returned (.bool (Plain.oddB c)) ∧ Below w.heap.size w w' := by
  have HO := Aside0.mk (odd_as c)
  have h255 : (c.toNat : Int) < 256 := by have := UInt8.toNat_lt c; omega
  have hconv : ((c.toNat : Int)).toNat.toUInt8 = c := by simp
  have HC := Aside0.mk hconv
  clear hconv
  by_cases a1 : (c.toNat : Int) < 32
  · by_cases a2 : (c.toNat : Int) = 9
    · have HV := Aside0.mk (show c = 9 from by
        have : c.toNat = 9 := by omega
        exact UInt8.toNat_inj.1 this)
      rw [HO.out, HV.out]
      clear HO HC a1 a2 h255
      go_enter Tryz.func39, Tryz.ntmps39
      go_wp2_with fail
      refine (Tryz.strings_IndexByte _ _ _).mono ?_
      rintro e W1 ⟨rfl, hw⟩
      subst hw
      go_wp2
      go_ret
      exact ⟨ret_bool (by decide), Below.refl _ _⟩
    · rw [HO.out, decide_eq_true a1, decide_eq_false a2]
      clear HO HC
      go_enter Tryz.func39, Tryz.ntmps39
      go_wp2
      go_ret
      exact ⟨rfl, Below.refl _ _⟩
  · have a2 : ¬ (c.toNat : Int) = 9 := by omega
    by_cases a3 : (c.toNat : Int) = 127
    · rw [HO.out, decide_eq_true a3]
      simp only [Bool.true_or, Bool.or_true]
      clear HO HC
      go_enter Tryz.func39, Tryz.ntmps39
      go_wp2
      go_ret
      exact ⟨rfl, Below.refl _ _⟩
    · rw [HO.out, decide_eq_false a3, decide_eq_false a1]
      simp only [Bool.false_and, Bool.false_or]
      clear HO
      go_enter Tryz.func39, Tryz.ntmps39
      go_wp2_with fail
      refine (Tryz.strings_IndexByte _ _ _).mono ?_
      rintro e W1 ⟨rfl, hw⟩
      subst hw
      rw [HC.out]
      go_wp2
      go_ret
      exact ⟨ret_bool (by simp [a3]), Below.refl _ _⟩
theorem unlike_as (c : UInt8) : (!Plain.langB c) = (((decide (Go.bits .or .u8 (c.toNat : Int) 32 < 97) || decide (Go.bits .or .u8 (c.toNat : Int) 32 > 122)) && (decide ((c.toNat : Int) < 48) || decide ((c.toNat : Int) > 57))) && decide (Lib.indexByte [42, 45, 46, 59, 61, 44, 32] c < 0)) := by
  have := Plain.all_bytes (p := fun c => (!Plain.langB c) == (((decide (Go.bits .or .u8 (c.toNat : Int) 32 < 97) || decide (Go.bits .or .u8 (c.toNat : Int) 32 > 122)) && (decide ((c.toNat : Int) < 48) || decide ((c.toNat : Int) > 57))) && decide (Lib.indexByte [42, 45, 46, 59, 61, 44, 32] c < 0))) (by decide +kernel) c
  simpa using this
set_option maxHeartbeats 1000000 in
theorem unlike_any (c : UInt8) (w : World) :
    Calls Tryz.prog 38 #[.int .u8 (c.toNat : Int)] w fun e w' => e = .returned (.bool (!Plain.langB c)) ∧ Below w.heap.size w w' := by
  have HO := Aside0.mk (unlike_as c)
  have h255 : (c.toNat : Int) < 256 := by have := UInt8.toNat_lt c; omega
  have hconv : ((c.toNat : Int)).toNat.toUInt8 = c := by simp
  have HC := Aside0.mk hconv
  clear hconv
  rw [HO.out]
  clear HO
  obtain ⟨m, hm⟩ : ∃ m, Go.bits .or .u8 (c.toNat : Int) 32 = m := ⟨_, rfl⟩
  rw [hm]
  by_cases a1 : m < 97
  · by_cases a3 : (c.toNat : Int) < 48
    · rw [decide_eq_true a1, decide_eq_true a3]
      simp only [Bool.true_or, Bool.true_and]
      go_enter Tryz.func38, Tryz.ntmps38
      go_wp2_with fail
      refine (Tryz.strings_IndexByte _ _ _).mono ?_
      rintro e W1 ⟨rfl, hw⟩
      subst hw
      rw [HC.out]
      go_wp2
      go_ret
      exact ⟨rfl, Below.refl _ _⟩
    · by_cases a4 : (c.toNat : Int) > 57
      · rw [decide_eq_true a1, decide_eq_false a3, decide_eq_true a4]
        simp only [Bool.true_or, Bool.or_true, Bool.true_and]
        go_enter Tryz.func38, Tryz.ntmps38
        go_wp2_with fail
        refine (Tryz.strings_IndexByte _ _ _).mono ?_
        rintro e W1 ⟨rfl, hw⟩
        subst hw
        rw [HC.out]
        go_wp2
        go_ret
        exact ⟨rfl, Below.refl _ _⟩
      · rw [decide_eq_true a1, decide_eq_false a3, decide_eq_false a4]
        simp only [Bool.true_or, Bool.or_false, Bool.true_and, Bool.false_and]
        go_enter Tryz.func38, Tryz.ntmps38
        go_wp2
        go_ret
        exact ⟨rfl, Below.refl _ _⟩
  · by_cases a2 : m > 122
    · by_cases a3 : (c.toNat : Int) < 48
      · rw [decide_eq_false a1, decide_eq_true a2, decide_eq_true a3]
        simp only [Bool.true_or, Bool.or_true, Bool.true_and]
        go_enter Tryz.func38, Tryz.ntmps38
        go_wp2_with fail
        refine (Tryz.strings_IndexByte _ _ _).mono ?_
        rintro e W1 ⟨rfl, hw⟩
        subst hw
        rw [HC.out]
        go_wp2
        go_ret
        exact ⟨rfl, Below.refl _ _⟩
      · by_cases a4 : (c.toNat : Int) > 57
        · rw [decide_eq_false a1, decide_eq_true a2, decide_eq_false a3, decide_eq_true a4]
          simp only [Bool.true_or, Bool.or_true, Bool.true_and]
          go_enter Tryz.func38, Tryz.ntmps38
          go_wp2_with fail
          refine (Tryz.strings_IndexByte _ _ _).mono ?_
          rintro e W1 ⟨rfl, hw⟩
          subst hw
          rw [HC.out]
          go_wp2
          go_ret
          exact ⟨rfl, Below.refl _ _⟩
        · rw [decide_eq_false a3, decide_eq_false a4]
          simp only [Bool.or_false, Bool.and_false, Bool.false_and]
          go_enter Tryz.func38, Tryz.ntmps38
          go_wp2
          go_ret
          exact ⟨rfl, Below.refl _ _⟩
    · rw [decide_eq_false a1, decide_eq_false a2]
      simp only [Bool.or_false, Bool.false_and]
      go_enter Tryz.func38, Tryz.ntmps38
      go_wp2
      go_ret
      exact ⟨rfl, Below.refl _ _⟩
theorem odd_tells (w : World) : TellsB 39 #[] (fun x => 0 ≤ x ∧ x < 256) (fun x => Plain.oddB x.toNat.toUInt8) w := by
  intro W x hx _
  obtain ⟨c, rfl, hc⟩ := byte_of hx.1 hx.2
  have := odd_any c W
  simp only [hc]
  exact this
theorem unlike_tells (w : World) : TellsB 38 #[] (fun x => 0 ≤ x ∧ x < 256) (fun x => !Plain.langB x.toNat.toUInt8) w := by
  intro W x hx _
  obtain ⟨c, rfl, hc⟩ := byte_of hx.1 hx.2
  have := unlike_any c W
  simp only [hc]
  exact this
theorem ints_any (l : List UInt8) (p : UInt8 → Bool) : (ints l).any (fun x => p x.toNat.toUInt8) = l.any p := by
  unfold ints
  rw [List.any_map]
  congr 1
  funext c
  simp
theorem withoutOdd_any (a : Addr) (s : ByteArray) (w : World) (hs : s.size ≤ 9223372036854775807) (hc : w.cell? a = some (.func (.func 39) #[] #[])) :
    Calls Tryz.prog 52 #[.string s, .pointer (some a)] w fun e w' => e = .returned (.bool (!s.data.toList.any Plain.oddB)) ∧ Below w.heap.size w w' := by
  have := without1_any 39 _ (enters_of Tryz.func39 (by kernel_rfl) rfl) a s w hs hc (odd_tells w)
  rw [ints_any] at this
  exact this
theorem withoutLang_any (a : Addr) (s : ByteArray) (w : World) (hs : s.size ≤ 9223372036854775807) (hc : w.cell? a = some (.func (.func 38) #[] #[])) :
    Calls Tryz.prog 52 #[.string s, .pointer (some a)] w fun e w' => e = .returned (.bool (s.data.toList.all Plain.langB)) ∧ Below w.heap.size w w' := by
  have := without1_any 38 _ (enters_of Tryz.func38 (by kernel_rfl) rfl) a s w hs hc (unlike_tells w)
  rw [ints_any s.data.toList (fun c => !Plain.langB c), show (!s.data.toList.any fun c => !Plain.langB c) = s.data.toList.all Plain.langB from by simp [List.all_eq_not_any_not]] at this
  exact this
end Go.Proofs.YtikhboebmmmopaaGreatDoor.Ext
