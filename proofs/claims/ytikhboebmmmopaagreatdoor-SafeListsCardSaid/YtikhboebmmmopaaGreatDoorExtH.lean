/-
  PLAIN LAWS: what the printed functions that safe.Header reaches (Cut, CutPrefix, Trim, Essence, Contains) come to. Conditions: sizes that an int holds.
  CONTRACTS, proved by hand: safe.content, safe.ranged, safe.Header. Conditions: sizes; the tables of unicode/utf8 where Tabs stands.
  CONTRACTS, proved by hand: safe.Header. Conditions: sizes; the tables of unicode/utf8 where Tabs stands.
-/
import Derived.Test.YtikhboebmmmopaaGreatDoorExtS
import Derived.Test.YtikhboebmmmopaaGreatDoorFunEE
namespace Go.Proofs.YtikhboebmmmopaaGreatDoor.PureE
open Go.RowKit Go.Proofs.YtikhboebmmmopaaGreatDoorW.PrintWords
open Go.Proofs.YtikhboebmmmopaaGreatDoor.Ext (txt Big)
open Go.Proofs.YtikhboebmmmopaaGreatDoor.FunE
open Go.Proofs.YtikhboebmmmopaaGreatDoor.Plain (upTo past essence)

theorem mwrap {i : Int} (h0 : -9223372036854775808 ≤ i) (h1 : i ≤ 9223372036854775807) : wrap64 i = i := by
  unfold wrap64
  omega
theorem mlen (s : ByteArray) : s.data.toList.length = s.size := (Lib.size_eq s).symm
theorem mlist (s : ByteArray) : s.toList = s.data.toList := Lib.toList_data s
theorem mextract (s : ByteArray) (a b : Nat) : s.extract a b = txt ((s.data.toList.drop a).take (b - a)) := by
  rw [Lib.extract_eq]
  rfl
theorem mname (s : ByteArray) (hs : s.size ≤ Big) : Ext.token_Name.f s = some (Plain.nameB s.data.toList) := by
  unfold Ext.token_Name.f
  rw [if_pos hs]
theorem mlower (s : ByteArray) (hs : s.size ≤ Big) : Ext.token_Lower.f s = some (txt (Plain.lower s.data.toList)) := by
  unfold Ext.token_Lower.f
  rw [if_pos hs]
theorem mtrim (s : ByteArray) (hs : s.size ≤ Big) : token_Trim.f s = some (txt (Plain.trimB s.data.toList)) := by
  unfold token_Trim.f
  rw [Ext.trim_blanks s hs]
  rfl
theorem mapp (a b : List UInt8) : txt a ++ txt b = txt (a ++ b) := by
  apply Ext.data_inj
  simp [Ext.txt_data]
theorem mtl (l : List UInt8) : (txt l).toList = l := by rw [mlist, Ext.txt_data]

theorem idx_in (c : UInt8) : ∀ (l : List UInt8), c ∈ l → Lib.indexByte l c = ((upTo c l).length : Int)
  | [], h => by cases h
  | b :: l, h => by
    by_cases e : b = c
    · subst e
      simp [Lib.indexByte, upTo]
    · have h1 : c ∈ l := by rcases List.mem_cons.1 h with h | h; exact absurd h.symm e; exact h
      have ih := idx_in c l h1
      have hb : (b == c) = false := by simpa using e
      have hb2 : (b != c) = true := by simpa using e
      have hn : ((((upTo c l).length : Int)) == -1) = false := by
        simp only [beq_eq_false_iff_ne, ne_eq]
        omega
      have e1 : upTo c (b :: l) = b :: upTo c l := by unfold upTo; rw [List.takeWhile_cons, if_pos hb2]
      unfold Lib.indexByte
      rw [hb, ih, hn, e1]
      simp
theorem idx_out (c : UInt8) : ∀ (l : List UInt8), c ∉ l → Lib.indexByte l c = -1
  | [], _ => rfl
  | b :: l, h => by
    have e : ¬ b = c := fun e => h (by rw [e]; exact List.mem_cons_self ..)
    have ih := idx_out c l (fun hc => h (List.mem_cons_of_mem _ hc))
    have hb : (b == c) = false := by simpa using e
    unfold Lib.indexByte
    rw [hb, ih]
    simp
theorem cut_f (s : ByteArray) (c : UInt8) (hs : s.size ≤ 4611686018427387904) : strings_Cut.f s ⟨#[c]⟩ = some (txt (upTo c s.data.toList), txt (past c s.data.toList), s.data.toList.contains c) := by
  have hB : s.size ≤ Big := by unfold Ext.Big; omega
  have hl := mlen s
  unfold strings_Cut.f stringslite_Cut.f Ext.stringslite_Index.f
  rw [if_pos ⟨by rfl, hB⟩]
  simp only [Option.bind_some]
  rw [show ((⟨#[c]⟩ : ByteArray).data[0]?.getD 0) = c from rfl, show ((⟨#[c]⟩ : ByteArray).size : Int) = 1 from rfl]
  by_cases h : c ∈ s.data.toList
  · obtain ⟨h1, h2⟩ := Plain.split_at c _ h
    have hlen : (upTo c s.data.toList).length + 1 + (past c s.data.toList).length = s.size := by
      rw [← hl]
      have := congrArg List.length h1
      rw [List.length_append, List.length_cons] at this
      omega
    rw [idx_in c _ h, if_pos (by omega), if_pos (by omega), if_pos (by omega), mwrap (by omega) (by omega), if_pos (by omega), if_pos (by omega)]
    simp only [Option.bind_some]
    rw [Int.toNat_natCast, show (((upTo c s.data.toList).length : Int) + 1).toNat = (upTo c s.data.toList).length + 1 by omega, mextract, mextract]
    have e1 : (s.data.toList.drop 0).take ((upTo c s.data.toList).length - 0) = upTo c s.data.toList := by
      rw [List.drop_zero, Nat.sub_zero]
      conv => lhs; arg 2; rw [h1]
      exact List.take_left
    have e2 : (s.data.toList.drop ((upTo c s.data.toList).length + 1)).take (s.size - ((upTo c s.data.toList).length + 1)) = past c s.data.toList := by
      rw [List.take_of_length_le (by rw [List.length_drop, hl]; exact Nat.le_refl _)]
      conv => lhs; arg 2; rw [h1]
      rw [show upTo c s.data.toList ++ c :: past c s.data.toList = (upTo c s.data.toList ++ [c]) ++ past c s.data.toList by simp]
      exact List.drop_left' (by simp)
    rw [e1, e2, List.contains_iff_mem.2 h]
  · rw [idx_out c _ h, if_neg (by omega)]
    simp only [Option.bind_some]
    rw [Plain.upTo_none c _ h, Plain.past_none c _ h, Ext.txt_self, show s.data.toList.contains c = false from by simpa using h]
    rfl

def essT (l : List UInt8) : ByteArray × Bool := match essence l with
  | some e => (txt e, true)
  | none => (⟨#[]⟩, false)
theorem essT_some {l e : List UInt8} (h : essence l = some e) : essT l = (txt e, true) := by unfold essT; rw [h]
theorem essT_none {l : List UInt8} (h : essence l = none) : essT l = (⟨#[]⟩, false) := by unfold essT; rw [h]
theorem upTo_len (c : UInt8) (l : List UInt8) : (upTo c l).length ≤ l.length := (List.takeWhile_prefix _).length_le
theorem past_len (c : UInt8) (l : List UInt8) : (past c l).length ≤ l.length := by
  unfold past
  rw [List.length_drop]
  have := (List.dropWhile_suffix (l := l) (· != c)).length_le
  omega
theorem essence_f (s : ByteArray) (hs : s.size ≤ 1152921504606846976) : mime_Essence.f s = some (essT s.data.toList) := by
  have hl := mlen s
  obtain ⟨t, ht⟩ : ∃ t, t = Plain.trimB (upTo 59 s.data.toList) := ⟨_, rfl⟩
  have hu := upTo_len 59 s.data.toList
  have ht1 : t.length ≤ s.size := by
    rw [ht]
    have : (Plain.trimB (upTo 59 s.data.toList)).length ≤ _ := Plain.trimP_length _ _
    omega
  have h1 := upTo_len 47 t
  have h2 := past_len 47 t
  have c59 := cut_f s 59 (by omega)
  have ctr := mtrim (txt (upTo 59 s.data.toList)) (by rw [Ext.txt_size]; unfold Ext.Big; omega)
  rw [Ext.txt_data, ← ht] at ctr
  have c47 := cut_f (txt t) 47 (by rw [Ext.txt_size]; omega)
  rw [Ext.txt_data] at c47
  have n1 := mname (txt (upTo 47 t)) (by rw [Ext.txt_size]; unfold Ext.Big; omega)
  have n2 := mname (txt (past 47 t)) (by rw [Ext.txt_size]; unfold Ext.Big; omega)
  rw [Ext.txt_data] at n1 n2
  unfold mime_Essence.f
  rw [c59]
  simp only [Option.bind_some]
  rw [ctr]
  simp only [Option.bind_some]
  rw [c47]
  simp only [Option.bind_some]
  unfold essT essence
  rw [← ht]
  by_cases a1 : t.contains 47 = true
  · rw [if_pos a1, n1]
    simp only [Option.bind_some]
    by_cases a2 : Plain.nameB (upTo 47 t) = true
    · rw [if_pos a2, n2]
      simp only [Option.bind_some]
      by_cases a3 : Plain.nameB (past 47 t) = true
      · rw [if_pos a3, show (⟨#[47]⟩ : ByteArray) = txt [47] from rfl, mapp, mapp]
        rw [if_pos (by rw [Ext.txt_size]; omega), if_pos (by rw [Ext.txt_size, Ext.txt_size, List.length_append, List.length_singleton]; omega), mlower _ (by rw [Ext.txt_size]; unfold Ext.Big; simp only [List.length_append, List.length_singleton]; omega), Ext.txt_data, if_pos ⟨a1, a2, a3⟩]
        simp
      · rw [if_neg a3, if_neg (fun h => a3 h.2.2)]
    · rw [if_neg a2, if_neg (fun h => a2 h.2.1)]
  · rw [if_neg a1, if_neg (fun h => a1 h.1)]

/-! ### Index, Contains -/
def idxI (l : List ByteArray) (x : ByteArray) : Bool := l.any fun y => decide (x = y)
theorem idxI_cons (y : ByteArray) (l : List ByteArray) (x : ByteArray) : idxI (y :: l) x = (decide (x = y) || idxI l x) := rfl
theorem rd_nat (l : List ByteArray) (i : Nat) (h : i < l.length) : rdOf ByteArray.empty l (i : Int) = l[i] := by
  unfold rdOf
  rw [Int.toNat_natCast, List.getD, List.getElem?_eq_getElem h]
  rfl
theorem eq_list (a b : ByteArray) : (a.toList = b.toList) ↔ a = b := by
  rw [mlist, mlist]
  exact ⟨Ext.data_inj, fun h => by rw [h]⟩
theorem index_l0 (l : List ByteArray) (x : ByteArray) (hl : l.length ≤ 1000000000000000000) (d : Nat) : ∀ (k i : Nat), l.length - i = d → i ≤ l.length → d < k →
    ∃ n : Int, slices_Index_string_string.l0 k l x (l.length : Int) (i : Int) = some n ∧ decide (n ≥ 0) = idxI (l.drop i) x := by
  induction d with
  | zero =>
    intro k i hd hi hk
    obtain ⟨k, rfl⟩ : ∃ m, k = m + 1 := ⟨k - 1, by omega⟩
    refine ⟨-1, ?_, ?_⟩
    · simp only [slices_Index_string_string.l0]
      rw [if_neg (by omega)]
    · rw [List.drop_eq_nil_of_le (by omega)]
      rfl
  | succ d ih =>
    intro k i hd hi hk
    obtain ⟨k, rfl⟩ : ∃ m, k = m + 1 := ⟨k - 1, by omega⟩
    have hli : i < l.length := by omega
    simp only [slices_Index_string_string.l0]
    rw [if_pos (by omega), if_pos (by omega), if_pos (by omega), rd_nat l i hli, List.drop_eq_getElem_cons hli]
    by_cases h : x.toList = l[i].toList
    · rw [if_pos h]
      refine ⟨(i : Int), rfl, ?_⟩
      rw [decide_eq_true (by omega), idxI_cons, decide_eq_true ((eq_list _ _).1 h)]
      rfl
    · rw [if_neg h, mwrap (by omega) (by omega), show ((i : Int) + 1) = ((i + 1 : Nat) : Int) from by omega]
      obtain ⟨n, h1, h2⟩ := ih k (i + 1) (by omega) (by omega) (by omega)
      refine ⟨n, h1, ?_⟩
      rw [h2]
      have hne : ¬ x = l[i] := fun e => h ((eq_list _ _).2 e)
      rw [idxI_cons, decide_eq_false hne]
      rfl
theorem contains_f (l : List ByteArray) (x : ByteArray) (hl : l.length ≤ 1000000000000000000) (k : Nat) (hk : l.length < k) : slices_Contains_string_string.f k l x = some (idxI l x) := by
  obtain ⟨n, h1, h2⟩ := index_l0 l x hl l.length k 0 (by omega) (by omega) hk
  unfold slices_Contains_string_string.f slices_Index_string_string.f
  rw [show (0 : Int) = ((0 : Nat) : Int) from rfl, h1]
  simp only [Option.bind_some]
  rw [List.drop_zero] at h2
  rw [show ((0 : Nat) : Int) = 0 from rfl, h2]
theorem idx_lists (l : List (List UInt8)) (x : List UInt8) : idxI (l.map txt) (txt x) = l.contains x := by
  rw [Bool.eq_iff_iff]
  simp only [idxI, List.any_eq_true, List.mem_map, decide_eq_true_eq, List.contains_iff_mem]
  constructor
  · rintro ⟨y, ⟨z, hz, rfl⟩, h⟩
    rw [Ext.txt_inj h]; exact hz
  · intro h
    exact ⟨txt x, ⟨x, h, rfl⟩, rfl⟩


/-! ### CutPrefix -/
theorem take_prefix (p l : List UInt8) (h : p.length ≤ l.length) : (l.take p.length == p) = p.isPrefixOf l := by
  rw [Bool.eq_iff_iff, beq_iff_eq, List.isPrefixOf_iff_prefix]
  constructor
  · intro e
    have := List.take_append_drop p.length l
    rw [e] at this
    exact ⟨_, this⟩
  · rintro ⟨t, rfl⟩
    exact List.take_left' rfl
theorem not_prefix (p l : List UInt8) (h : l.length < p.length) : p.isPrefixOf l = false := by
  cases e : p.isPrefixOf l
  · rfl
  · have := (List.isPrefixOf_iff_prefix.1 e).length_le
    omega
theorem hasPrefix_f (s p : ByteArray) : strings_HasPrefix.f s p = some (p.data.toList.isPrefixOf s.data.toList) := by
  have hl := mlen s
  have hp := mlen p
  unfold strings_HasPrefix.f stringslite_HasPrefix.f
  by_cases h : p.size ≤ s.size
  · rw [if_pos (by omega), if_pos (by omega), if_pos (by omega), Int.toNat_natCast, mextract, List.drop_zero, Nat.sub_zero, mtl, mlist, ← hp, take_prefix _ _ (by omega)]
    rfl
  · rw [if_neg (by omega), not_prefix _ _ (by omega)]
    rfl
theorem cutPrefix_f (s p : ByteArray) : strings_CutPrefix.f s p = some (if p.data.toList.isPrefixOf s.data.toList = true then (txt (s.data.toList.drop p.size), true) else (s, false)) := by
  have hl := mlen s
  have hp := mlen p
  have h1 := hasPrefix_f s p
  unfold strings_HasPrefix.f at h1
  have h2 : stringslite_HasPrefix.f s p = some (p.data.toList.isPrefixOf s.data.toList) := by
    revert h1
    cases stringslite_HasPrefix.f s p <;> simp
  unfold strings_CutPrefix.f stringslite_CutPrefix.f
  rw [h2]
  simp only [Option.bind_some]
  by_cases h : p.data.toList.isPrefixOf s.data.toList = true
  · have hle := (List.isPrefixOf_iff_prefix.1 h).length_le
    rw [if_pos h, if_pos h, if_pos (by omega), if_pos (by omega), Int.toNat_natCast, mextract, List.take_of_length_le (by rw [List.length_drop]; omega)]
    rfl
  · rw [if_neg h, if_neg h]
    rfl
end Go.Proofs.YtikhboebmmmopaaGreatDoor.PureE
namespace Go.Proofs.YtikhboebmmmopaaGreatDoor.Ext
open Go.RowKit Go.Proofs.YtikhboebmmmopaaGreatDoorW.PrintWords
open Go.Proofs.YtikhboebmmmopaaGreatDoor.PureE (essT idxI)

theorem kinds_at (v : List UInt8) : idxI (Plain.kinds.map txt) (essT v).1 = Plain.kinds.any (fun k => Plain.essence v == some k) := by
  unfold essT
  cases h : Plain.essence v with
  | none =>
    show idxI (Plain.kinds.map txt) (⟨#[]⟩ : ByteArray) = _
    rw [show (⟨#[]⟩ : ByteArray) = txt [] from rfl, PureE.idx_lists]
    decide
  | some e =>
    show idxI (Plain.kinds.map txt) (txt e) = _
    rw [PureE.idx_lists, Bool.eq_iff_iff, List.contains_iff_mem, List.any_eq_true]
    constructor
    · intro hm
      exact ⟨e, hm, by simp⟩
    · rintro ⟨k, hk, he⟩
      have : e = k := by simpa using he
      rw [this]
      exact hk

set_option maxHeartbeats 2000000 in
theorem content_any (s : ByteArray) (w : World) (hT : Tabs w) (hs : s.size ≤ 1152921504606846976) :
    Calls Tryz.prog 40 #[.string s] w fun e w' => e = .returned (.bool (Plain.contB s.data.toList)) ∧ Below w.heap.size w w' := by
  have HE := Aside0.mk (FunE.mime_Essence.calls s (essT s.data.toList).1 (essT s.data.toList).2 w hT (PureE.essence_f s hs))
  have eg := enters_of Tryz.func52 (by kernel_rfl) rfl
  have HG := Aside0.mk (show Plain.contB s.data.toList = (!s.data.toList.any Plain.oddB && idxI (Plain.kinds.map txt) (essT s.data.toList).1) from by rw [kinds_at]; rfl)
  rw [HG.out]
  clear HG
  have HWA := Aside0.mk (fun a W hc => withoutOdd_any a s W (by omega) hc)
  have HXA := Aside0.mk (fun W A hr => FunE.slices_Contains_string_string.calls 60 A 3 (Plain.kinds.map txt) (essT s.data.toList).1 _ W hr (by decide) (PureE.contains_f (Plain.kinds.map txt) (essT s.data.toList).1 (by decide) 60 (by decide)))
  generalize idxI (Plain.kinds.map txt) (essT s.data.toList).1 = r at *
  generalize (essT s.data.toList).1 = kd at *
  generalize (essT s.data.toList).2 = ok at *
  generalize s.data.toList.any Plain.oddB = od at *
  clear hs hT
  go_enter Tryz.func40, Tryz.ntmps40
  go_wp2_with fail
  refine HE.out.mono ?_
  rintro e w1 ⟨rfl, hb1⟩
  have HB1 := Aside0.mk hb1
  clear hb1 HE
  go_wp2_with fail
  refine (without_any 39 w1).mono ?_
  rintro e w2 ⟨rfl, rfl⟩
  have hc := World.alloc_heap_new w1 (Obj.cells #[Value.func (Fn.func 39) #[] #[]] 46)
  have HW := Aside0.mk (HWA.out ⟨w1.heap.size, 0, none⟩ (w1.alloc (Obj.cells #[Value.func (Fn.func 39) #[] #[]] 46)) (by unfold World.cell?; simp only [hc]; rfl))
  clear hc HWA
  have HB2 := Aside0.mk (below_alloc HB1.out (.cells #[Value.func (Fn.func 39) #[] #[]] 46))
  clear HB1
  generalize (w1.alloc (Obj.cells #[Value.func (Fn.func 39) #[] #[]] 46)) = w2 at HW HB2
  go_wp2_with fail
  refine HW.out.mono ?_
  rintro e w3 ⟨rfl, hb3⟩
  have HB3 := Aside0.mk (below_then HB2.out HB2.out.size hb3)
  clear hb3 HW HB2
  cases od with
  | true =>
    go_wp2
    go_ret
    exact ⟨rfl, HB3.out⟩
  | false =>
    have HC := Aside0.mk (C_block (xs := Plain.kinds.map txt) (World.alloc_heap_new w3 (.cells ((Plain.kinds.map txt).map Value.string).toArray 9)) (by decide))
    have HX := Aside0.mk (HXA.out _ _ HC.out)
    clear HC HXA
    go_wp2_with fail
    refine HX.out.mono ?_
    rintro e w4 ⟨rfl, hd⟩
    have HB4 := Aside0.mk (below_then (below_alloc HB3.out (.cells ((Plain.kinds.map txt).map Value.string).toArray 9)) (below_alloc HB3.out _).size hd.below)
    clear hd HX HB3
    go_wp2
    go_ret
    exact ⟨rfl, HB4.out⟩

set_option maxHeartbeats 2000000 in
theorem ranged_walk (s s1 fr tb : ByteArray) (ok is one two em : Bool) (a b : Int) (w : World)
    (H1 : Aside0 (∀ W, Calls Tryz.prog 56 #[.string s, .string (⟨#[98, 121, 116, 101, 115, 61]⟩ : ByteArray)] W fun e w' => e = .returned (.tuple #[.string s1, .bool ok]) ∧ Drawn0 W w'))
    (H2 : Aside0 (∀ W, Calls Tryz.prog 57 #[.string s1, .string (⟨#[45]⟩ : ByteArray)] W fun e w' => e = .returned (.tuple #[.string fr, .string tb, .bool is]) ∧ Below W.heap.size W w'))
    (H3 : Aside0 (∀ W, Calls Tryz.prog 58 #[.string fr, .int .i64 1000000000] W fun e w' => e = .returned (.tuple #[.int .i64 a, .bool one]) ∧ Below W.heap.size W w'))
    (H4 : Aside0 (∀ W, Calls Tryz.prog 58 #[.string tb, .int .i64 1000000000] W fun e w' => e = .returned (.tuple #[.int .i64 b, .bool two]) ∧ Below W.heap.size W w'))
    (HEM : Aside0 ((tb.toList == []) = em)) :
    Calls Tryz.prog 41 #[.string s] w fun e w' => e = .returned (.bool (ok && (is && (one && (em || (two && decide (a ≤ b))))))) ∧ Below w.heap.size w w' := by
  go_enter Tryz.func41, Tryz.ntmps41
  go_wp2_with fail
  refine (H1.out _).mono ?_
  rintro e w1 ⟨rfl, hd⟩
  have HB1 := Aside0.mk hd.below
  clear hd H1
  go_wp2_with fail
  refine (H2.out _).mono ?_
  rintro e w2 ⟨rfl, hb2⟩
  have HB2 := Aside0.mk (below_then HB1.out HB1.out.size hb2)
  clear hb2 HB1 H2
  go_wp2_with fail
  refine (H3.out _).mono ?_
  rintro e w3 ⟨rfl, hb3⟩
  have HB3 := Aside0.mk (below_then HB2.out HB2.out.size hb3)
  clear hb3 HB2 H3
  go_wp2_with fail
  refine (H4.out _).mono ?_
  rintro e w4 ⟨rfl, hb4⟩
  have HB4 := Aside0.mk (below_then HB3.out HB3.out.size hb4)
  clear hb4 HB3 H4
  cases ok with
  | false =>
    go_wp2
    go_ret
    exact ⟨rfl, HB4.out⟩
  | true =>
    cases is with
    | false =>
      go_wp2
      go_ret
      exact ⟨rfl, HB4.out⟩
    | true =>
      cases one with
      | false =>
        go_wp2
        go_ret
        exact ⟨rfl, HB4.out⟩
      | true =>
        cases em with
        | true =>
          have hb := HEM.out
          go_wp2
          go_ret
          exact ⟨rfl, HB4.out⟩
        | false =>
          have hb := HEM.out
          cases two with
          | false =>
            go_wp2
            go_ret
            exact ⟨rfl, HB4.out⟩
          | true =>
            go_wp2
            go_ret
            exact ⟨ret_bool (by simp), HB4.out⟩

theorem ranged_cut (s : ByteArray) : ∃ (s1 : ByteArray) (ok : Bool), FunE.strings_CutPrefix.f s (⟨#[98, 121, 116, 101, 115, 61]⟩ : ByteArray) = some (s1, ok) ∧ s1.size ≤ s.size ∧ Plain.rangB s.data.toList = (ok && Plain.rangR s1.data.toList) := by
  have hl := PureE.mlen s
  have h := PureE.cutPrefix_f s (⟨#[98, 121, 116, 101, 115, 61]⟩ : ByteArray)
  rw [show (⟨#[98, 121, 116, 101, 115, 61]⟩ : ByteArray).data.toList = Plain.pBytes from rfl, show (⟨#[98, 121, 116, 101, 115, 61]⟩ : ByteArray).size = 6 from rfl] at h
  by_cases hp : Plain.pBytes.isPrefixOf s.data.toList = true
  · rw [if_pos hp] at h
    exact ⟨_, _, h, by rw [txt_size, List.length_drop]; omega, by unfold Plain.rangB; rw [hp, txt_data]⟩
  · rw [if_neg hp] at h
    exact ⟨_, _, h, Nat.le_refl _, by unfold Plain.rangB; rw [Bool.eq_false_iff.2 hp, Bool.false_and, Bool.false_and]⟩
theorem ranged_any (s : ByteArray) (w : World) (hs : s.size ≤ 1152921504606846976) :
    Calls Tryz.prog 41 #[.string s] w fun e w' => e = .returned (.bool (Plain.rangB s.data.toList)) ∧ Below w.heap.size w w' := by
  obtain ⟨s1, ok, hcp, hsz, hf⟩ := ranged_cut s
  have hl1 := PureE.mlen s1
  have h1 := PureE.upTo_len 45 s1.data.toList
  have h2 := PureE.past_len 45 s1.data.toList
  have hcut := PureE.cut_f s1 45 (by omega)
  have hfr : (txt (Plain.upTo 45 s1.data.toList)).size ≤ 9223372036854775807 := by rw [txt_size]; omega
  have htb : (txt (Plain.past 45 s1.data.toList)).size ≤ 9223372036854775807 := by rw [txt_size]; omega
  have h3 := fun W => number_any (txt (Plain.upTo 45 s1.data.toList)) 1000000000 W hfr
  have h4 := fun W => number_any (txt (Plain.past 45 s1.data.toList)) 1000000000 W htb
  have h5 := PureE.mlist (txt (Plain.past 45 s1.data.toList))
  rw [txt_data] at h5
  simp only [txt_data] at h3 h4
  have hg : Plain.rangR s1.data.toList = (s1.data.toList.contains 45 && ((numB (Plain.upTo 45 s1.data.toList) 1000000000).2 && (((txt (Plain.past 45 s1.data.toList)).toList == []) || ((numB (Plain.past 45 s1.data.toList) 1000000000).2 && decide ((numB (Plain.upTo 45 s1.data.toList) 1000000000).1 ≤ (numB (Plain.past 45 s1.data.toList) 1000000000).1))))) := by rw [h5]; rfl
  rw [hf, hg]
  exact ranged_walk s s1 (txt (Plain.upTo 45 s1.data.toList)) (txt (Plain.past 45 s1.data.toList)) ok (s1.data.toList.contains 45) (numB (Plain.upTo 45 s1.data.toList) 1000000000).2 (numB (Plain.past 45 s1.data.toList) 1000000000).2 _ (numB (Plain.upTo 45 s1.data.toList) 1000000000).1 (numB (Plain.past 45 s1.data.toList) 1000000000).1 w ⟨fun W => FunE.strings_CutPrefix.calls s (⟨#[98, 121, 116, 101, 115, 61]⟩ : ByteArray) s1 ok W hcp⟩ ⟨fun W => FunE.strings_Cut.calls s1 (⟨#[45]⟩ : ByteArray) _ _ _ W hcut⟩ ⟨h3⟩ ⟨h4⟩ ⟨rfl⟩
end Go.Proofs.YtikhboebmmmopaaGreatDoor.Ext
namespace Go.Proofs.YtikhboebmmmopaaGreatDoor.Ext
open Go.RowKit Go.Proofs.YtikhboebmmmopaaGreatDoorW.PrintWords

def tag (k : List UInt8) : Nat := if k = Plain.nAccept then 0 else if k = Plain.nALang then 1 else if k = Plain.nCLang then 2 else if k = Plain.nCType then 3 else if k = Plain.nRange then 4 else 5
theorem find_at (w : World) (k : List UInt8) : Instr.findNow .string (.string ⟨k.toArray⟩) (entries w).toList 0 = some (match (entries w)[tag k]? with | some e => some (tag k, e.val) | none => none) := by
  rcases Go.MapKept.findNow_spec (d := .string) (k := .string ⟨k.toArray⟩) (by simp [MapKept.IsKey]) (entries w).toList 0 (by intro x hx; simp [entries] at hx; rcases hx with rfl | rfl | rfl | rfl | rfl <;> simp [MapKept.IsKey]) with ⟨h1, h2⟩ | ⟨j, e, h1, h2, h3⟩
  · have hne : ∀ l : List UInt8, (∃ x ∈ (entries w).toList, x.key = .string ⟨l.toArray⟩) → k ≠ l := by
      rintro l ⟨x, hx, e⟩ rfl
      exact h2 x hx e
    have a0 := hne Plain.nAccept ⟨_, List.mem_cons_self .., rfl⟩
    have a1 := hne Plain.nALang ⟨_, List.mem_cons_of_mem _ (List.mem_cons_self ..), rfl⟩
    have a2 := hne Plain.nCLang ⟨_, List.mem_cons_of_mem _ (List.mem_cons_of_mem _ (List.mem_cons_self ..)), rfl⟩
    have a3 := hne Plain.nCType ⟨_, List.mem_cons_of_mem _ (List.mem_cons_of_mem _ (List.mem_cons_of_mem _ (List.mem_cons_self ..))), rfl⟩
    have a4 := hne Plain.nRange ⟨_, List.mem_cons_of_mem _ (List.mem_cons_of_mem _ (List.mem_cons_of_mem _ (List.mem_cons_of_mem _ (List.mem_cons_self ..)))), rfl⟩
    have t5 : tag k = 5 := by
      unfold tag
      rw [if_neg a0, if_neg a1, if_neg a2, if_neg a3, if_neg a4]
    rw [h1, t5]
    rfl
  · have hk : ∀ l : List UInt8, e.key = .string ⟨l.toArray⟩ → k = l := by
      intro l hl
      rw [h3] at hl
      have : (⟨k.toArray⟩ : ByteArray) = ⟨l.toArray⟩ := Value.string.inj hl
      exact txt_inj this
    match j, h2 with
    | 0, h2 =>
      obtain rfl := Option.some.inj h2
      rw [h1, show tag k = 0 from by rw [hk Plain.nAccept rfl]; decide]
      rfl
    | 1, h2 =>
      obtain rfl := Option.some.inj h2
      rw [h1, show tag k = 1 from by rw [hk Plain.nALang rfl]; decide]
      rfl
    | 2, h2 =>
      obtain rfl := Option.some.inj h2
      rw [h1, show tag k = 2 from by rw [hk Plain.nCLang rfl]; decide]
      rfl
    | 3, h2 =>
      obtain rfl := Option.some.inj h2
      rw [h1, show tag k = 3 from by rw [hk Plain.nCType rfl]; decide]
      rfl
    | 4, h2 =>
      obtain rfl := Option.some.inj h2
      rw [h1, show tag k = 4 from by rw [hk Plain.nRange rfl]; decide]
      rfl
    | j + 5, h2 =>
      simp [entries] at h2
def valOf : Option (Nat × Value) → Value
  | some x => x.2
  | none => .nilFunc
theorem run_look2 (W : World) (B : Nat) (es : Array MapEntry) (clock : Nat) (k : ByteArray) (r : Option (Nat × Value)) (h : W.heap[B]? = some (.map es clock)) (hk : Instr.findNow .string (.string k) es.toList 0 = some r) :
    (Instr.lookup 38 (.map (some B)) (.string k) true).run Tryz.prog W = .ok (.tuple #[valOf r, .bool r.isSome]) W := by
  rw [run_look W B es clock k r h hk]
  cases r <;> rfl
def entAt (w : World) (i : Nat) : Option (Nat × Value) := match (entries w)[i]? with | some e => some (i, e.val) | none => none
theorem find_at2 (w : World) (k : List UInt8) : Instr.findNow .string (.string ⟨k.toArray⟩) (entries w).toList 0 = some (entAt w (tag k)) := find_at w k
theorem val_tag (m v : List UInt8) : Plain.valB m v = (if tag m = 0 then !v.any Plain.oddB else if tag m = 1 then v.all Plain.langB else if tag m = 2 then v.all Plain.langB else if tag m = 3 then Plain.contB v else if tag m = 4 then Plain.rangB v else false) := by
  unfold Plain.valB tag
  split
  · rfl
  · split
    · rfl
    · split
      · rfl
      · split
        · rfl
        · split <;> rfl

set_option maxHeartbeats 2000000 in
set_option maxRecDepth 100000 in
theorem header_any (n v : ByteArray) (w : World) (hT : Tabs w) (hn : n.size ≤ 9223372036854775807) (hv : v.size ≤ 1152921504606846976) :
    Calls Tryz.prog 8 #[.string n, .string v] w fun e w' => e = .returned (.bool (Plain.hdr n.data.toList v.data.toList)) ∧ Below w.heap.size w w' := by
  have HG := Aside0.mk (show Plain.hdr n.data.toList v.data.toList = (decide ((v.size : Int) ≤ 128) && Plain.valB (Plain.lower n.data.toList) v.data.toList) from by
    unfold Plain.hdr
    rw [PureE.mlen]
    congr 1
    rw [decide_eq_decide]
    omega)
  rw [HG.out]
  clear HG
  have HV := Aside0.mk (val_tag (Plain.lower n.data.toList) v.data.toList)
  have HF := Aside0.mk (fun W : World => find_at2 W (Plain.lower n.data.toList))
  have HL := Aside0.mk (fun W : World => lower_any n W hn)
  generalize Plain.lower n.data.toList = m at *
  generalize hvl : Plain.valB m v.data.toList = r at *
  have HTW := Aside0.mk hT
  have eg := enters_of Tryz.func52 (by kernel_rfl) rfl
  have eg3 := enters_of Tryz.func40 (by kernel_rfl) rfl
  have eg4 := enters_of Tryz.func41 (by kernel_rfl) rfl
  have HS := Aside0.mk hv
  clear hT hn hvl hv
  go_enter Tryz.func8, Tryz.ntmps8
  go_wp2_with fail
  refine (values_any w).mono ?_
  rintro e w1 ⟨rfl, hM, hU, hO, hb1⟩
  have HM := Aside0.mk hM
  have HU := Aside0.mk hU
  have HO := Aside0.mk hO
  have HB1 := Aside0.mk hb1
  clear hM hU hO hb1
  go_wp2_with fail
  refine (HL.out w1).mono ?_
  rintro e w2 ⟨rfl, hb2⟩
  have hlt : w.heap.size + 1 + 1 < w1.heap.size := (Array.getElem?_eq_some_iff.1 HO.out).1
  have HM2 := Aside0.mk ((hb2.block _ (by omega)).trans HM.out)
  have HU2 := Aside0.mk ((hb2.block _ (by omega)).trans HU.out)
  have HO2 := Aside0.mk ((hb2.block _ (by omega)).trans HO.out)
  have HB2 := Aside0.mk (below_then HB1.out HB1.out.size hb2)
  have HT2 := Aside0.mk (tabs_at HTW.out HB2.out)
  clear hlt hb2 HM HU HO HB1 HL HTW
  have HLK := Aside0.mk (run_look2 w2 (w.heap.size + 1) (entries w) 5 ⟨m.toArray⟩ _ HM2.out (HF.out w))
  have hlk := HLK.out
  clear HLK HM2
  have hv' := HS.out
  have HR := HV
  clear HV
  rcases ht : tag m with _ | _ | _ | _ | _ | k
  · have hr := HR.out
    rw [ht] at hlk hr
    replace hlk : (Instr.lookup 38 (.map (some (w.heap.size + 1))) (.string ⟨m.toArray⟩) true).run Tryz.prog w2 = .ok (.tuple #[Value.func (Fn.func 52) #[] #[.pointer (some ⟨w.heap.size + 1 + 1, 0, none⟩)], .bool true]) w2 := hlk
    replace hr : r = (!v.data.toList.any Plain.oddB) := hr
    have hcall := withoutOdd_any ⟨w.heap.size + 1 + 1, 0, none⟩ v w2 (by omega) (by unfold World.cell?; simp only [HO2.out]; rfl)
    rw [← hr] at hcall
    have HC := Aside0.mk hcall
    clear hcall hr HR ht hv' HS HT2 HU2 HO2 HF
    by_cases h128 : (v.size : Int) ≤ 128
    · have HD := Aside0.mk (decide_eq_true h128)
      go_wp2_with fail
      refine HC.out.mono ?_
      rintro e w3 ⟨rfl, hb3⟩
      have HB3 := Aside0.mk (below_then HB2.out HB2.out.size hb3)
      clear hb3 HC
      go_wp2
      go_ret
      exact ⟨by rw [HD.out]; rfl, HB3.out⟩
    · have HD := Aside0.mk (decide_eq_false h128)
      clear HC
      go_wp2
      go_ret
      exact ⟨by rw [HD.out]; rfl, HB2.out⟩
  · have hr := HR.out
    rw [ht] at hlk hr
    replace hlk : (Instr.lookup 38 (.map (some (w.heap.size + 1))) (.string ⟨m.toArray⟩) true).run Tryz.prog w2 = .ok (.tuple #[Value.func (Fn.func 52) #[] #[.pointer (some ⟨w.heap.size, 0, none⟩)], .bool true]) w2 := hlk
    replace hr : r = (v.data.toList.all Plain.langB) := hr
    have hcall := withoutLang_any ⟨w.heap.size, 0, none⟩ v w2 (by omega) (by unfold World.cell?; simp only [HU2.out]; rfl)
    rw [← hr] at hcall
    have HC := Aside0.mk hcall
    clear hcall hr HR ht hv' HS HT2 HU2 HO2 HF
    by_cases h128 : (v.size : Int) ≤ 128
    · have HD := Aside0.mk (decide_eq_true h128)
      go_wp2_with fail
      refine HC.out.mono ?_
      rintro e w3 ⟨rfl, hb3⟩
      have HB3 := Aside0.mk (below_then HB2.out HB2.out.size hb3)
      clear hb3 HC
      go_wp2
      go_ret
      exact ⟨by rw [HD.out]; rfl, HB3.out⟩
    · have HD := Aside0.mk (decide_eq_false h128)
      clear HC
      go_wp2
      go_ret
      exact ⟨by rw [HD.out]; rfl, HB2.out⟩
  · have hr := HR.out
    rw [ht] at hlk hr
    replace hlk : (Instr.lookup 38 (.map (some (w.heap.size + 1))) (.string ⟨m.toArray⟩) true).run Tryz.prog w2 = .ok (.tuple #[Value.func (Fn.func 52) #[] #[.pointer (some ⟨w.heap.size, 0, none⟩)], .bool true]) w2 := hlk
    replace hr : r = (v.data.toList.all Plain.langB) := hr
    have hcall := withoutLang_any ⟨w.heap.size, 0, none⟩ v w2 (by omega) (by unfold World.cell?; simp only [HU2.out]; rfl)
    rw [← hr] at hcall
    have HC := Aside0.mk hcall
    clear hcall hr HR ht hv' HS HT2 HU2 HO2 HF
    by_cases h128 : (v.size : Int) ≤ 128
    · have HD := Aside0.mk (decide_eq_true h128)
      go_wp2_with fail
      refine HC.out.mono ?_
      rintro e w3 ⟨rfl, hb3⟩
      have HB3 := Aside0.mk (below_then HB2.out HB2.out.size hb3)
      clear hb3 HC
      go_wp2
      go_ret
      exact ⟨by rw [HD.out]; rfl, HB3.out⟩
    · have HD := Aside0.mk (decide_eq_false h128)
      clear HC
      go_wp2
      go_ret
      exact ⟨by rw [HD.out]; rfl, HB2.out⟩
  · have hr := HR.out
    rw [ht] at hlk hr
    replace hlk : (Instr.lookup 38 (.map (some (w.heap.size + 1))) (.string ⟨m.toArray⟩) true).run Tryz.prog w2 = .ok (.tuple #[Value.func (Fn.func 40) #[] #[], .bool true]) w2 := hlk
    replace hr : r = (Plain.contB v.data.toList) := hr
    have hcall := content_any v w2 HT2.out hv'
    rw [← hr] at hcall
    have HC := Aside0.mk hcall
    clear hcall hr HR ht hv' HS HT2 HU2 HO2 HF
    by_cases h128 : (v.size : Int) ≤ 128
    · have HD := Aside0.mk (decide_eq_true h128)
      go_wp2_with fail
      refine HC.out.mono ?_
      rintro e w3 ⟨rfl, hb3⟩
      have HB3 := Aside0.mk (below_then HB2.out HB2.out.size hb3)
      clear hb3 HC
      go_wp2
      go_ret
      exact ⟨by rw [HD.out]; rfl, HB3.out⟩
    · have HD := Aside0.mk (decide_eq_false h128)
      clear HC
      go_wp2
      go_ret
      exact ⟨by rw [HD.out]; rfl, HB2.out⟩
  · have hr := HR.out
    rw [ht] at hlk hr
    replace hlk : (Instr.lookup 38 (.map (some (w.heap.size + 1))) (.string ⟨m.toArray⟩) true).run Tryz.prog w2 = .ok (.tuple #[Value.func (Fn.func 41) #[] #[], .bool true]) w2 := hlk
    replace hr : r = (Plain.rangB v.data.toList) := hr
    have hcall := ranged_any v w2 hv'
    rw [← hr] at hcall
    have HC := Aside0.mk hcall
    clear hcall hr HR ht hv' HS HT2 HU2 HO2 HF
    by_cases h128 : (v.size : Int) ≤ 128
    · have HD := Aside0.mk (decide_eq_true h128)
      go_wp2_with fail
      refine HC.out.mono ?_
      rintro e w3 ⟨rfl, hb3⟩
      have HB3 := Aside0.mk (below_then HB2.out HB2.out.size hb3)
      clear hb3 HC
      go_wp2
      go_ret
      exact ⟨by rw [HD.out]; rfl, HB3.out⟩
    · have HD := Aside0.mk (decide_eq_false h128)
      clear HC
      go_wp2
      go_ret
      exact ⟨by rw [HD.out]; rfl, HB2.out⟩
  · have hr := HR.out
    rw [ht] at hlk hr
    replace hlk : (Instr.lookup 38 (.map (some (w.heap.size + 1))) (.string ⟨m.toArray⟩) true).run Tryz.prog w2 = .ok (.tuple #[Value.nilFunc, .bool false]) w2 := hlk
    replace hr : r = false := hr
    have hr' : (decide ((v.size : Int) ≤ 128) && r) = false := by rw [hr, Bool.and_false]
    have HR' := Aside0.mk hr'
    clear hr hr' HR ht hv' HS HT2 HU2 HO2 HF
    go_wp2
    go_ret
    exact ⟨by rw [HR'.out]; rfl, HB2.out⟩

def safe_Header.f (a0 : ByteArray) (a1 : ByteArray) : Option (Bool) := if a0.size ≤ 9223372036854775807 ∧ a1.size ≤ 1152921504606846976 then some (Plain.hdr a0.data.toList a1.data.toList) else none
theorem safe_Header.calls (a0 : ByteArray) (a1 : ByteArray) (r : Bool) (w : World) (hT : Tabs w) (h : safe_Header.f a0 a1 = some r) :
    Calls Tryz.prog 8 #[.string a0, .string a1] w fun e w' => e = .returned (.bool r) ∧ Below w.heap.size w w' := by
  unfold safe_Header.f at h
  split at h
  · rename_i hs
    obtain rfl := Option.some.inj h
    exact header_any a0 a1 w hT hs.1 hs.2
  · cases h
end Go.Proofs.YtikhboebmmmopaaGreatDoor.Ext
