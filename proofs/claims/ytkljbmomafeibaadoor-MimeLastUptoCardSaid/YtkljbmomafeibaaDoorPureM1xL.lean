/-
  PLAIN LAWS: what the printed functions of layer 11 that need no table (Cut, Trim, Essence, the first check) come to, and the plain laws of MimeNames and MimeOwn. Conditions: sizes that an int holds.
-/
import Derived.Test.YtkljbmomafeibaaDoorPlainM
import Derived.Test.YtkljbmomafeibaaDoorFun2xL
namespace Go.Proofs.YtkljbmomafeibaaDoor.Pure
open Go.RowKit Go.Proofs.YtkljbmomafeibaaDoorW.PrintWords
open Go.Proofs.YtkljbmomafeibaaDoor.Ext (txt Big)
open Go.Proofs.YtkljbmomafeibaaDoor.Fun
open Go.Proofs.YtkljbmomafeibaaDoor.Plain (upTo past essence)

theorem mwrap {i : Int} (h0 : -9223372036854775808 ≤ i) (h1 : i ≤ 9223372036854775807) : wrap64 i = i := by
  unfold wrap64
  omega
theorem mlen (s : ByteArray) : s.data.toList.length = s.size := (Lib.size_eq s).symm
theorem mlist (s : ByteArray) : s.toList = s.data.toList := Lib.toList_data s
theorem mextract (s : ByteArray) (a b : Nat) : s.extract a b = txt ((s.data.toList.drop a).take (b - a)) := by
  rw [Lib.extract_eq]
  rfl
theorem mname (s : ByteArray) (hs : s.size ≤ Big) : Ext.token_Name.f s = some (Plain.nameB s.data.toList) := by
  unfold Ext.token_Name.f
  rw [if_pos hs]
theorem mlower (s : ByteArray) (hs : s.size ≤ Big) : Ext.token_Lower.f s = some (txt (Plain.lower s.data.toList)) := by
  unfold Ext.token_Lower.f
  rw [if_pos hs]
theorem mtrim (s : ByteArray) (hs : s.size ≤ Big) : token_Trim.f s = some (txt (Plain.trimB s.data.toList)) := by
  unfold token_Trim.f
  rw [Ext.trim_blanks s hs]
  rfl
theorem mapp (a b : List UInt8) : txt a ++ txt b = txt (a ++ b) := by
  apply Ext.data_inj
  simp [Ext.txt_data]
theorem mtl (l : List UInt8) : (txt l).toList = l := by rw [mlist, Ext.txt_data]

theorem idx_in (c : UInt8) : ∀ (l : List UInt8), c ∈ l → Lib.indexByte l c = ((upTo c l).length : Int)
  | [], h => by cases h
  | b :: l, h => by
    by_cases e : b = c
    · subst e
      simp [Lib.indexByte, upTo]
    · have h1 : c ∈ l := by rcases List.mem_cons.1 h with h | h; exact absurd h.symm e; exact h
      have ih := idx_in c l h1
      have hb : (b == c) = false := by simpa using e
      have hb2 : (b != c) = true := by simpa using e
      have hn : ((((upTo c l).length : Int)) == -1) = false := by
        simp only [beq_eq_false_iff_ne, ne_eq]
        omega
      have e1 : upTo c (b :: l) = b :: upTo c l := by unfold upTo; rw [List.takeWhile_cons, if_pos hb2]
      unfold Lib.indexByte
      rw [hb, ih, hn, e1]
      simp
theorem idx_out (c : UInt8) : ∀ (l : List UInt8), c ∉ l → Lib.indexByte l c = -1
  | [], _ => rfl
  | b :: l, h => by
    have e : ¬ b = c := fun e => h (by rw [e]; exact List.mem_cons_self ..)
    have ih := idx_out c l (fun hc => h (List.mem_cons_of_mem _ hc))
    have hb : (b == c) = false := by simpa using e
    unfold Lib.indexByte
    rw [hb, ih]
    simp
theorem cut_f (s : ByteArray) (c : UInt8) (hs : s.size ≤ 4611686018427387904) : strings_Cut.f s ⟨#[c]⟩ = some (txt (upTo c s.data.toList), txt (past c s.data.toList), s.data.toList.contains c) := by
  have hB : s.size ≤ Big := by unfold Ext.Big; omega
  have hl := mlen s
  unfold strings_Cut.f stringslite_Cut.f Ext.stringslite_Index.f
  rw [if_pos ⟨by rfl, hB⟩]
  simp only [Option.bind_some]
  rw [show ((⟨#[c]⟩ : ByteArray).data[0]?.getD 0) = c from rfl, show ((⟨#[c]⟩ : ByteArray).size : Int) = 1 from rfl]
  by_cases h : c ∈ s.data.toList
  · obtain ⟨h1, h2⟩ := Plain.split_at c _ h
    have hlen : (upTo c s.data.toList).length + 1 + (past c s.data.toList).length = s.size := by
      rw [← hl]
      have := congrArg List.length h1
      rw [List.length_append, List.length_cons] at this
      omega
    rw [idx_in c _ h, if_pos (by omega), if_pos (by omega), if_pos (by omega), mwrap (by omega) (by omega), if_pos (by omega), if_pos (by omega)]
    simp only [Option.bind_some]
    rw [Int.toNat_natCast, show (((upTo c s.data.toList).length : Int) + 1).toNat = (upTo c s.data.toList).length + 1 by omega, mextract, mextract]
    have e1 : (s.data.toList.drop 0).take ((upTo c s.data.toList).length - 0) = upTo c s.data.toList := by
      rw [List.drop_zero, Nat.sub_zero]
      conv => lhs; arg 2; rw [h1]
      exact List.take_left
    have e2 : (s.data.toList.drop ((upTo c s.data.toList).length + 1)).take (s.size - ((upTo c s.data.toList).length + 1)) = past c s.data.toList := by
      rw [List.take_of_length_le (by rw [List.length_drop, hl]; exact Nat.le_refl _)]
      conv => lhs; arg 2; rw [h1]
      rw [show upTo c s.data.toList ++ c :: past c s.data.toList = (upTo c s.data.toList ++ [c]) ++ past c s.data.toList by simp]
      exact List.drop_left' (by simp)
    rw [e1, e2, List.contains_iff_mem.2 h]
  · rw [idx_out c _ h, if_neg (by omega)]
    simp only [Option.bind_some]
    rw [Plain.upTo_none c _ h, Plain.past_none c _ h, Ext.txt_self, show s.data.toList.contains c = false from by simpa using h]
    rfl

def essT (l : List UInt8) : ByteArray × Bool := match essence l with
  | some e => (txt e, true)
  | none => (⟨#[]⟩, false)
theorem essT_some {l e : List UInt8} (h : essence l = some e) : essT l = (txt e, true) := by unfold essT; rw [h]
theorem essT_none {l : List UInt8} (h : essence l = none) : essT l = (⟨#[]⟩, false) := by unfold essT; rw [h]
theorem upTo_len (c : UInt8) (l : List UInt8) : (upTo c l).length ≤ l.length := (List.takeWhile_prefix _).length_le
theorem past_len (c : UInt8) (l : List UInt8) : (past c l).length ≤ l.length := by
  unfold past
  rw [List.length_drop]
  have := (List.dropWhile_suffix (l := l) (· != c)).length_le
  omega
theorem essence_f (s : ByteArray) (hs : s.size ≤ 1152921504606846976) : mime_Essence.f s = some (essT s.data.toList) := by
  have hl := mlen s
  obtain ⟨t, ht⟩ : ∃ t, t = Plain.trimB (upTo 59 s.data.toList) := ⟨_, rfl⟩
  have hu := upTo_len 59 s.data.toList
  have ht1 : t.length ≤ s.size := by
    rw [ht]
    have : (Plain.trimB (upTo 59 s.data.toList)).length ≤ _ := Plain.trimP_length _ _
    omega
  have h1 := upTo_len 47 t
  have h2 := past_len 47 t
  have c59 := cut_f s 59 (by omega)
  have ctr := mtrim (txt (upTo 59 s.data.toList)) (by rw [Ext.txt_size]; unfold Ext.Big; omega)
  rw [Ext.txt_data, ← ht] at ctr
  have c47 := cut_f (txt t) 47 (by rw [Ext.txt_size]; omega)
  rw [Ext.txt_data] at c47
  have n1 := mname (txt (upTo 47 t)) (by rw [Ext.txt_size]; unfold Ext.Big; omega)
  have n2 := mname (txt (past 47 t)) (by rw [Ext.txt_size]; unfold Ext.Big; omega)
  rw [Ext.txt_data] at n1 n2
  unfold mime_Essence.f
  rw [c59]
  simp only [Option.bind_some]
  rw [ctr]
  simp only [Option.bind_some]
  rw [c47]
  simp only [Option.bind_some]
  unfold essT essence
  rw [← ht]
  by_cases a1 : t.contains 47 = true
  · rw [if_pos a1, n1]
    simp only [Option.bind_some]
    by_cases a2 : Plain.nameB (upTo 47 t) = true
    · rw [if_pos a2, n2]
      simp only [Option.bind_some]
      by_cases a3 : Plain.nameB (past 47 t) = true
      · rw [if_pos a3, show (⟨#[47]⟩ : ByteArray) = txt [47] from rfl, mapp, mapp]
        rw [if_pos (by rw [Ext.txt_size]; omega), if_pos (by rw [Ext.txt_size, Ext.txt_size, List.length_append, List.length_singleton]; omega), mlower _ (by rw [Ext.txt_size]; unfold Ext.Big; simp only [List.length_append, List.length_singleton]; omega), Ext.txt_data, if_pos ⟨a1, a2, a3⟩]
        simp
      · rw [if_neg a3, if_neg (fun h => a3 h.2.2)]
    · rw [if_neg a2, if_neg (fun h => a2 h.2.1)]
  · rw [if_neg a1, if_neg (fun h => a1 h.1)]

/-! ### the first check -/
theorem shown_more : ∀ (n k : Nat), LeO (transeptlaw11_shown.f k) (transeptlaw11_shown.f (k + n))
  | 0, _ => LeO.refl _
  | n + 1, k => fun r h => transeptlaw11_shown.mono (k + n) r (shown_more n k r h)
theorem shown_at : transeptlaw11_shown.f 60 = some true := by decide +kernel
theorem shown_f (k : Nat) (hk : 60 ≤ k) : transeptlaw11_shown.f k = some true := by
  have := shown_more (k - 60) 60 true shown_at
  rwa [show 60 + (k - 60) = k by omega] at this

/-! ### MimeNames -/
theorem MimeNames (a0 a1 a2 : ByteArray) (h0 : a0.size ≤ 140737488351232) (h1 : a1.size ≤ 140737488351232) (h2 : a2.size ≤ 140737488351232) : ∃ k, transeptlaw11_MimeNames.f k a0 a1 a2 = some true := by
  obtain ⟨k, hk⟩ : ∃ k, k = 99 := ⟨_, rfl⟩
  refine ⟨k + 1, ?_⟩
  obtain ⟨a, rfl⟩ : ∃ a, a0 = txt a := ⟨a0.data.toList, (Ext.txt_self a0).symm⟩
  obtain ⟨b, rfl⟩ : ∃ b, a1 = txt b := ⟨a1.data.toList, (Ext.txt_self a1).symm⟩
  obtain ⟨m, rfl⟩ : ∃ m, a2 = txt m := ⟨a2.data.toList, (Ext.txt_self a2).symm⟩
  rw [Ext.txt_size] at h0 h1 h2
  unfold transeptlaw11_MimeNames.f
  rw [shown_f _ (by omega)]
  simp only [Option.bind_some]
  rw [mname _ (by rw [Ext.txt_size]; unfold Ext.Big; omega), mname _ (by rw [Ext.txt_size]; unfold Ext.Big; omega), Ext.txt_data, Ext.txt_data]
  simp only [Option.bind_some]
  simp only [transeptlaw11_MimeNames.j0]
  by_cases ha : Plain.nameB a = true
  · rw [if_pos ha]
    by_cases hb : Plain.nameB b = true
    · rw [hb]
      have e47 : (⟨#[47]⟩ : ByteArray) = txt [47] := rfl
      have e59 : (⟨#[59]⟩ : ByteArray) = txt [59] := rfl
      have e3247 : (⟨#[32, 47]⟩ : ByteArray) = txt [32, 47] := rfl
      have e4732 : (⟨#[47, 32]⟩ : ByteArray) = txt [47, 32] := rfl
      have sz : ∀ l : List UInt8, (txt l).size = l.length := Ext.txt_size
      have ess : ∀ l : List UInt8, l.length ≤ 1152921504606846976 → mime_Essence.f (txt l) = some (essT l) := fun l h => by
        rw [essence_f _ (by rw [Ext.txt_size]; exact h), Ext.txt_data]
      have low : ∀ l : List UInt8, l.length ≤ 1152921504606846976 → Ext.token_Lower.f (txt l) = some (txt (Plain.lower l)) := fun l h => by
        rw [mlower _ (by rw [Ext.txt_size]; unfold Ext.Big; omega), Ext.txt_data]
      rw [e47, e59, e3247, e4732]
      simp only [mapp, sz, List.length_append, List.length_cons, List.length_nil, Nat.zero_add, Bool.not_true, Bool.false_eq_true, if_false, if_true]
      rw [if_pos (by omega), if_pos (by omega), if_pos (by omega), if_pos (by omega), ess _ (by simp only [List.length_append, List.length_cons, List.length_nil]; omega), ess _ (by simp only [List.length_append, List.length_cons, List.length_nil]; omega),
        ess _ (by simp only [List.length_append, List.length_cons, List.length_nil]; omega), ess _ (by simp only [List.length_append, List.length_cons, List.length_nil]; omega), ess _ (by simp only [List.length_append, List.length_cons, List.length_nil]; omega), low _ (by omega), low _ (by omega),
        essT_some (Plain.names_one ha hb m), essT_none (Plain.names_ahead ha hb), essT_none (Plain.names_behind ha hb), essT_none (Plain.names_again ha hb), essT_none (Plain.names_none ha hb)]
      simp only [Option.bind_some, sz, mapp, mtl, Plain.lower_length, if_true, Bool.false_eq_true, if_false, List.length_append, List.length_cons, List.length_nil, Bool.not_false]
      rw [if_pos (by omega), if_pos (by omega), if_pos (by omega), if_pos (by omega), if_pos (by omega), if_pos (by omega), if_pos (by omega)]
    · rw [Bool.eq_false_iff.mpr hb]
      rfl
  · rw [if_neg ha]
    rfl

/-! ### MimeOwn -/
theorem MimeOwn (a0 a1 : ByteArray) (h0 : a0.size ≤ 140737488351232) (h1 : a1.size ≤ 140737488351232) : ∃ k, transeptlaw11_MimeOwn.f k a0 a1 = some true := by
  obtain ⟨k, hk⟩ : ∃ k, k = 99 := ⟨_, rfl⟩
  refine ⟨k, ?_⟩
  obtain ⟨s, rfl⟩ : ∃ s, a0 = txt s := ⟨a0.data.toList, (Ext.txt_self a0).symm⟩
  obtain ⟨m, rfl⟩ : ∃ m, a1 = txt m := ⟨a1.data.toList, (Ext.txt_self a1).symm⟩
  rw [Ext.txt_size] at h0 h1
  have sz : ∀ l : List UInt8, (txt l).size = l.length := Ext.txt_size
  have ess : ∀ l : List UInt8, l.length ≤ 1152921504606846976 → mime_Essence.f (txt l) = some (essT l) := fun l h => by
    rw [essence_f _ (by rw [Ext.txt_size]; exact h), Ext.txt_data]
  have low : ∀ l : List UInt8, l.length ≤ 1152921504606846976 → Ext.token_Lower.f (txt l) = some (txt (Plain.lower l)) := fun l h => by
    rw [mlower _ (by rw [Ext.txt_size]; unfold Ext.Big; omega), Ext.txt_data]
  unfold transeptlaw11_MimeOwn.f
  rw [shown_f _ (by omega), ess s (by omega)]
  simp only [Option.bind_some]
  cases he : essence s with
  | none =>
    rw [essT_none he]
    simp only [Bool.false_eq_true, if_false, if_true]
    decide +kernel
  | some e =>
    have hel := Plain.essence_length he
    obtain ⟨_, _, _, _, _, hle⟩ := Plain.essence_some he
    have e329 : (⟨#[32, 9]⟩ : ByteArray) = txt [32, 9] := rfl
    have e3259 : (⟨#[32, 59]⟩ : ByteArray) = txt [32, 59] := rfl
    rw [essT_some he, e329, e3259]
    simp only [if_true, mapp, sz, List.length_append, List.length_cons, List.length_nil]
    rw [ess e (by omega), essT_some (Plain.own_one he), ess _ (by simp only [List.length_append, List.length_cons, List.length_nil]; omega), essT_some (Plain.own_two he m), low e (by omega), hle]
    simp only [Option.bind_some, if_true, mtl, beq_self_eq_true]
    rw [if_pos (by omega), if_pos (by omega), if_pos (by omega)]
end Go.Proofs.YtkljbmomafeibaaDoor.Pure
