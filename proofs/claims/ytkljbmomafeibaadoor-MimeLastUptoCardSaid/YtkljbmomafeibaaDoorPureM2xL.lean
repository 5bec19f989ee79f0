/-
  PLAIN LAWS: what the printed functions of layer 11 that read fields (until, the reference's Essence and Of, Of) come to, and the plain law of MimeTells. Conditions: sizes of at most 1048576.
-/
import Derived.Test.YtkljbmomafeibaaDoorPureM1xL
import Derived.Test.YtkljbmomafeibaaDoorPureFxL
namespace Go.Proofs.YtkljbmomafeibaaDoor.Pure
open Go.RowKit Go.Proofs.YtkljbmomafeibaaDoorW.PrintWords
open Go.Proofs.YtkljbmomafeibaaDoor.Ext (txt Big)
open Go.Proofs.YtkljbmomafeibaaDoor.Fun
open Go.Proofs.YtkljbmomafeibaaDoor.Plain (upTo past essence counts lastOf)

theorem until_l0 (s : ByteArray) (c : UInt8) (hs : s.size ≤ 4611686018427387904) (d : Nat) : ∀ (k i : Nat), s.size - i = d → i ≤ s.size → d < k → c ∉ s.data.toList.take i →
    transeptref11_until.l0 k s (c.toNat : Int) (i : Int) = some (txt (upTo c s.data.toList), txt (past c s.data.toList), s.data.toList.contains c) := by
  have hl := len_eq s
  induction d with
  | zero =>
    intro k i hd hi hk hno
    obtain ⟨k, rfl⟩ : ∃ m, k = m + 1 := ⟨k - 1, by omega⟩
    simp only [transeptref11_until.l0]
    rw [List.take_of_length_le (by omega)] at hno
    rw [if_neg (by omega), Plain.upTo_none c _ hno, Plain.past_none c _ hno, Ext.txt_self, show s.data.toList.contains c = false from by simpa using hno]
    rfl
  | succ d ih =>
    intro k i hd hi hk hno
    obtain ⟨k, rfl⟩ : ∃ m, k = m + 1 := ⟨k - 1, by omega⟩
    have hli : i < s.data.toList.length := by omega
    simp only [transeptref11_until.l0]
    rw [if_pos (by omega), if_pos (by omega), bt_nat s i hli]
    by_cases h : s.data.toList[i] = c
    · have hsp : s.data.toList = s.data.toList.take i ++ c :: s.data.toList.drop (i + 1) := by
        rw [← h, ← drop_cons hli, List.take_append_drop]
      have e1 : upTo c s.data.toList = s.data.toList.take i := by
        conv => lhs; rw [hsp]
        exact Plain.upTo_at c _ _ hno
      have e2 : past c s.data.toList = s.data.toList.drop (i + 1) := by
        conv => lhs; rw [hsp]
        exact Plain.past_at c _ _ hno
      have e3 : s.data.toList.contains c = true := by
        rw [List.contains_iff_mem, ← h]
        exact List.getElem_mem hli
      rw [if_pos (by rw [h]), if_pos (by omega), wrap_in (by omega) (by omega), if_pos (by omega), if_pos (by omega), e1, e2, e3, Int.toNat_natCast, show ((i : Int) + 1).toNat = i + 1 by omega, extract_list, extract_list]
      rw [List.drop_zero, Nat.sub_zero, List.take_of_length_le (l := s.data.toList.drop (i + 1)) (by rw [List.length_drop]; omega)]
    · rw [if_neg (fun e => h (by rw [← UInt8.toNat_inj]; omega)), wrap_in (by omega) (by omega), show ((i : Int) + 1) = ((i + 1 : Nat) : Int) from by omega]
      refine ih k (i + 1) (by omega) (by omega) (by omega) ?_
      rw [List.take_succ_eq_append_getElem hli]
      intro hm
      rcases List.mem_append.1 hm with hm | hm
      · exact hno hm
      · exact h (List.mem_singleton.1 hm).symm
theorem until_f (s : ByteArray) (c : UInt8) (hs : s.size ≤ 4611686018427387904) (k : Nat) (hk : s.size < k) : transeptref11_until.f k s (c.toNat : Int) = some (txt (upTo c s.data.toList), txt (past c s.data.toList), s.data.toList.contains c) := by
  unfold transeptref11_until.f
  rw [show (0 : Int) = ((0 : Nat) : Int) from rfl]
  exact until_l0 s c hs s.size k 0 (by omega) (by omega) hk (by simp)

theorem ress_j0 (k : Nat) (a b : List UInt8) (ha : a.length ≤ 1000000000000000000) (hb : b.length ≤ 1000000000000000000) (q : Bool) : transeptref11_Essence.j0 (k + 1) (txt a) (txt b) q = some (if q = true then (⟨#[]⟩, false) else (txt (Plain.lower a ++ [47] ++ Plain.lower b), true)) := by
  simp only [transeptref11_Essence.j0]
  cases q with
  | true => rfl
  | false =>
    rw [if_neg (by decide), if_neg (by decide), frlower _ (by rw [Ext.txt_size]; unfold Ext.Big; omega), frlower _ (by rw [Ext.txt_size]; unfold Ext.Big; omega)]
    simp only [Option.bind_some, Ext.txt_data]
    rw [show (⟨#[47]⟩ : ByteArray) = txt [47] from rfl, fapp, fapp, Ext.txt_size, Ext.txt_size, Ext.txt_size, Plain.lower_length, if_pos (by omega), List.length_append, Plain.lower_length, Plain.lower_length, List.length_singleton, if_pos (by omega)]
theorem ress_f (s : ByteArray) (hs : s.size ≤ 1000000000000000) (k : Nat) (hk : s.size + s.size + 20 < k) : transeptref11_Essence.f k s = some (essT s.data.toList) := by
  obtain ⟨k, rfl⟩ : ∃ m, k = m + 1 := ⟨k - 1, by omega⟩
  have hl := len_eq s
  obtain ⟨t, ht⟩ : ∃ t, t = Plain.trimB (upTo 59 s.data.toList) := ⟨_, rfl⟩
  have hu := upTo_len 59 s.data.toList
  have ht1 : t.length ≤ s.size := by
    rw [ht]
    have : (Plain.trimB (upTo 59 s.data.toList)).length ≤ _ := Plain.trimP_length _ _
    omega
  have h1 := upTo_len 47 t
  have h2 := past_len 47 t
  have c59 := until_f s 59 (by omega) (k + 1) (by omega)
  have ctr := rtrim_f (txt (upTo 59 s.data.toList)) (by rw [Ext.txt_size]; unfold Ext.Big; omega) (k + 1) (by rw [Ext.txt_size]; omega)
  rw [Ext.txt_data, ← ht] at ctr
  have c47 := until_f (txt t) 47 (by rw [Ext.txt_size]; omega) (k + 1) (by rw [Ext.txt_size]; omega)
  rw [Ext.txt_data] at c47
  have n1 := name_f (txt (upTo 47 t)) (by rw [Ext.txt_size]; unfold Ext.Big; omega) (k + 1) (by rw [Ext.txt_size]; omega)
  have n2 := name_f (txt (past 47 t)) (by rw [Ext.txt_size]; unfold Ext.Big; omega) (k + 1) (by rw [Ext.txt_size]; omega)
  rw [Ext.txt_data] at n1 n2
  rw [show (((59 : UInt8).toNat : Nat) : Int) = 59 from rfl] at c59
  rw [show (((47 : UInt8).toNat : Nat) : Int) = 47 from rfl] at c47
  unfold transeptref11_Essence.f
  rw [c59]
  simp only [Option.bind_some]
  rw [ctr]
  simp only [Option.bind_some]
  rw [c47]
  simp only [Option.bind_some]
  rw [n1, n2]
  simp only [Option.bind_some]
  rw [ress_j0 k _ _ (by omega) (by omega), ress_j0 k _ _ (by omega) (by omega)]
  unfold essT essence
  rw [← ht]
  by_cases a1 : t.contains 47 = true
  · rw [if_pos a1]
    by_cases a2 : Plain.nameB (upTo 47 t) = true
    · rw [if_pos a2]
      by_cases a3 : Plain.nameB (past 47 t) = true
      · rw [a3, if_neg (by decide), if_pos ⟨a1, a2, rfl⟩]
        simp only [Plain.lower, List.map_append, List.map_cons, List.append_assoc, List.singleton_append, show Plain.lowC 47 = 47 from by decide]
      · rw [Bool.eq_false_iff.mpr a3, if_pos (by rfl), if_neg (fun h => by cases h.2.2)]
    · rw [if_neg a2, if_pos rfl, if_neg (fun h => a2 h.2.1)]
  · rw [if_neg a1, if_pos rfl, if_neg (fun h => a1 h.1)]

/-! ### which one counts -/
def lastL (l : List (List UInt8)) : List UInt8 := (lastOf l).getD []
theorem counts_ne {p e : List UInt8} (h : counts p = some e) : e ≠ [] := by
  unfold Plain.counts at h
  split at h
  · rename_i e' he
    split at h
    · cases h
    · cases h
      exact Plain.essence_ne he
  · cases h
theorem lastOf_ne {l : List (List UInt8)} {e : List UInt8} (h : lastOf l = some e) : e ≠ [] := by
  unfold Plain.lastOf at h
  obtain ⟨p, _, hp⟩ := List.exists_of_findSome?_eq_some h
  exact counts_ne hp
theorem rof_l0 (ps : List (List UInt8)) (hl : ps.length ≤ 10000000000000) (hs : ∀ p ∈ ps, p.length ≤ 10000000000000) (d : Nat) : ∀ (k i : Nat), ps.length - i = d → i ≤ ps.length → d + 20000000000020 < k →
    transeptref11_Of.l0 k (ps.map txt) (txt (lastL (ps.take i))) (i : Int) = some (txt (lastL ps), (lastL ps != [])) := by
  induction d with
  | zero =>
    intro k i hd hi hk
    obtain ⟨k, rfl⟩ : ∃ m, k = m + 1 := ⟨k - 1, by omega⟩
    simp only [transeptref11_Of.l0]
    rw [if_neg (by rw [List.length_map]; omega), ftl, List.take_of_length_le (by omega)]
  | succ d ih =>
    intro k i hd hi hk
    obtain ⟨k, rfl⟩ : ∃ m, k = m + 1 := ⟨k - 1, by omega⟩
    have hli : i < ps.length := by omega
    have hsi := hs ps[i] (List.getElem_mem hli)
    simp only [transeptref11_Of.l0]
    rw [if_pos (by rw [List.length_map]; omega), if_pos (by omega), rd_V _ i (by rw [List.length_map]; exact hli), List.getElem_map, ress_f _ (by rw [Ext.txt_size]; omega) k (by rw [Ext.txt_size]; omega), Ext.txt_data]
    simp only [Option.bind_some]
    rw [wrap_in (by omega) (by omega), show ((i : Int) + 1) = ((i + 1 : Nat) : Int) from by omega]
    have hih := ih k (i + 1) (by omega) (by omega) (by omega)
    have hstep : lastL (ps.take (i + 1)) = (counts ps[i]).getD (lastL (ps.take i)) := by
      unfold lastL
      rw [List.take_succ_eq_append_getElem hli, Plain.lastOf_snoc]
      cases counts ps[i] <;> rfl
    rw [hstep] at hih
    cases he : essence ps[i] with
    | none =>
      have hc : counts ps[i] = none := by unfold Plain.counts; rw [he]
      rw [hc] at hih
      rw [essT_none he, if_neg (by decide)]
      exact hih
    | some e =>
      rw [essT_some he, if_pos rfl, ftl]
      by_cases hst : e = [42, 47, 42]
      · have hc : counts ps[i] = none := by unfold Plain.counts; rw [he]; simp [hst]
        rw [hc] at hih
        rw [if_pos hst]
        exact hih
      · have hc : counts ps[i] = some e := by unfold Plain.counts; rw [he]; simp [hst]
        rw [hc] at hih
        rw [if_neg hst]
        exact hih
theorem split_sz {l : List S35} (h : Fits l) (name : List UInt8) : (splitP l name).length ≤ 10000000000000 ∧ ∀ p ∈ splitP l name, p.length ≤ 10000000000000 := by
  have h3 := h.joined name
  have h4 := parts_le (joined (sel l name))
  unfold splitP
  split
  · refine ⟨by omega, fun p hp => ?_⟩
    have := Plain.parts_mem_le hp
    omega
  · exact ⟨by simp, fun p hp => by cases hp⟩
theorem rof_f {l : List S35} (h : Fits l) (k : Nat) (hk : 40000000000000 < k) : transeptref11_Of.f k (l.map conv) = some (txt (lastL (splitP l [99, 111, 110, 116, 101, 110, 116, 45, 116, 121, 112, 101])), (lastL (splitP l [99, 111, 110, 116, 101, 110, 116, 45, 116, 121, 112, 101]) != [])) := by
  obtain ⟨h1, h2⟩ := split_sz h [99, 111, 110, 116, 101, 110, 116, 45, 116, 121, 112, 101]
  unfold transeptref11_Of.f
  rw [rsplit_f h _ (by decide +kernel) k (by omega)]
  simp only [Option.bind_some]
  have := rof_l0 _ h1 h2 _ k 0 rfl (by omega) (by omega)
  rw [List.take_zero] at this
  exact this
theorem cnt_txt (p : List UInt8) (hp : p.length ≤ 10000000000000) : mime_Of.cnt (txt p) = (counts p).map txt := by
  unfold mime_Of.cnt
  rw [essence_f _ (by rw [Ext.txt_size]; omega), Ext.txt_data]
  unfold Plain.counts
  cases he : essence p with
  | none => rw [essT_none he]; rfl
  | some e =>
    rw [essT_some he]
    have e1 : (txt e = mime_Of.star) ↔ e = [42, 47, 42] := by
      constructor
      · intro h
        exact Ext.txt_inj h
      · rintro rfl
        rfl
    by_cases hst : e = [42, 47, 42]
    · simp only [if_pos (e1.2 hst), if_pos hst]
      rfl
    · simp only [if_neg (fun h => hst (e1.1 h)), if_neg hst]
      rfl
theorem find_txt (ps : List (List UInt8)) (hs : ∀ p ∈ ps, p.length ≤ 10000000000000) : mime_Of.find (ps.map txt) = (txt (lastL ps), (lastL ps != [])) := by
  have e : (ps.map txt).reverse.findSome? mime_Of.cnt = (lastOf ps).map txt := by
    unfold Plain.lastOf
    rw [← List.map_reverse, List.findSome?_map]
    have : ∀ (l : List (List UInt8)), (∀ p ∈ l, p.length ≤ 10000000000000) → l.findSome? (mime_Of.cnt ∘ txt) = (l.findSome? counts).map txt := by
      intro l
      induction l with
      | nil => intro _; rfl
      | cons p r ih =>
        intro h
        rw [List.findSome?_cons, List.findSome?_cons, Function.comp_apply, cnt_txt p (h p (List.mem_cons_self ..)), ih (fun x hx => h x (List.mem_cons_of_mem _ hx))]
        cases counts p <;> rfl
    exact this _ (fun p hp => hs p (List.mem_reverse.1 hp))
  unfold mime_Of.find lastL
  rw [e]
  cases h : lastOf ps with
  | none => rfl
  | some x =>
    have hx := lastOf_ne h
    simp [hx]
theorem of_f {l : List S35} (h : Fits l) (k : Nat) (hk : 3000000000000 < k) : mime_Of.f k l = some (txt (lastL (splitP l [99, 111, 110, 116, 101, 110, 116, 45, 116, 121, 112, 101])), (lastL (splitP l [99, 111, 110, 116, 101, 110, 116, 45, 116, 121, 112, 101]) != [])) := by
  obtain ⟨h1, h2⟩ := split_sz h [99, 111, 110, 116, 101, 110, 116, 45, 116, 121, 112, 101]
  unfold mime_Of.f
  rw [split_f h _ (by decide +kernel) k hk]
  simp only [Option.bind_some]
  rw [if_pos]
  · exact congrArg some (find_txt _ h2)
  · rw [List.all_eq_true]
    intro s hs
    obtain ⟨p, hp, rfl⟩ := List.mem_map.1 hs
    rw [essence_f _ (by rw [Ext.txt_size]; have := h2 p hp; omega)]
    rfl

/-! ### the law -/
theorem lawof_l0 (l : List S35) (hl : l.length ≤ 100) (d : Nat) : ∀ (k i : Nat), l.length - i = d → i ≤ l.length → d < k → transeptlaw11_of.l0 k l ((l.take i).map conv) (i : Int) = some (l.map conv) := by
  induction d with
  | zero =>
    intro k i hd hi hk
    obtain ⟨k, rfl⟩ : ∃ m, k = m + 1 := ⟨k - 1, by omega⟩
    simp only [transeptlaw11_of.l0]
    rw [if_neg (by omega), List.take_of_length_le (by omega)]
  | succ d ih =>
    intro k i hd hi hk
    obtain ⟨k, rfl⟩ : ∃ m, k = m + 1 := ⟨k - 1, by omega⟩
    have hli : i < l.length := by omega
    simp only [transeptlaw11_of.l0]
    rw [if_pos (by omega), if_pos (by omega), if_pos (by omega), if_pos (by rw [List.length_map, List.length_take]; omega), wrap_in (by omega) (by omega), show ((i : Int) + 1) = ((i + 1 : Nat) : Int) from by omega, rd_F l i hli]
    have := ih k (i + 1) (by omega) (by omega) (by omega)
    rw [List.take_succ_eq_append_getElem hli, List.map_append] at this
    exact this
theorem lawof_f (l : List S35) (hl : l.length ≤ 100) (k : Nat) (hk : l.length < k) : transeptlaw11_of.f k l = some (l.map conv) := by
  unfold transeptlaw11_of.f
  rw [show (0 : Int) = ((0 : Nat) : Int) from rfl]
  exact lawof_l0 l hl l.length k 0 (by omega) (by omega) hk
theorem Fits.take {l : List S35} (h : Fits l) (n : Nat) : Fits (l.take n) :=
  ⟨by have := h.len; rw [List.length_take]; omega, fun f hf => h.name f (List.mem_of_mem_take hf), fun f hf => h.value f (List.mem_of_mem_take hf)⟩
theorem mn_100 (n : Nat) : mn (n : Int) 100 = ((min n 100 : Nat) : Int) := by
  unfold mn
  split <;> omega
theorem MimeTells (a0 : ByteArray) (l1 : List S35) (h0 : a0.size ≤ 1048576) (h1 : l1.length ≤ 1048576 ∧ ∀ s ∈ l1, s.f0.size ≤ 1048576 ∧ s.f1.size ≤ 1048576) : ∃ k, transeptlaw11_MimeTells.f k a0 l1 = some true := by
  obtain ⟨k, hk⟩ : ∃ k : Nat, 50000000000000 < k := ⟨50000000000001, by omega⟩
  refine ⟨k, ?_⟩
  have hF : Fits l1 := ⟨h1.1, fun f hf => by have := (h1.2 f hf).1; omega, fun f hf => by have := (h1.2 f hf).2; omega⟩
  have hT := Fits.take hF (min l1.length 100)
  unfold transeptlaw11_MimeTells.f
  rw [shown_f _ (by omega), essence_f _ (by omega), ress_f _ (by omega) k (by omega)]
  simp only [Option.bind_some]
  rw [mn_100, if_pos (by omega), if_pos (by omega), Int.toNat_natCast, of_f hT k (by omega), lawof_f _ (by rw [List.length_take]; omega) k (by rw [List.length_take]; omega)]
  simp only [Option.bind_some]
  rw [rof_f hT k (by omega)]
  simp
end Go.Proofs.YtkljbmomafeibaaDoor.Pure
