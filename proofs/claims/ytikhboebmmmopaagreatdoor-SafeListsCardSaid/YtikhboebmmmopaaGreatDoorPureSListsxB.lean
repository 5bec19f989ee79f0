/-
  THE PLAIN LAW of SafeLists: what the printed law computes is true. Condition: sizes of at most 140737488351232.
-/
import Derived.Test.YtikhboebmmmopaaGreatDoorPureZxB
import Derived.Test.YtikhboebmmmopaaGreatDoorFunWListsxB
import Derived.Sort.Walk0
namespace Go.Proofs.YtikhboebmmmopaaGreatDoor.Pure
open Go.RowKit Go.Proofs.YtikhboebmmmopaaGreatDoorW.PrintWords Go.Proofs.YtikhboebmmmopaaGreatDoorW.PrintMore
open Go.Proofs.YtikhboebmmmopaaGreatDoor.Ext (txt Big)
open Go.Proofs.YtikhboebmmmopaaGreatDoor.Fun
open Go.Proofs.YtikhboebmmmopaaGreatDoor.PureS (Fits hd ln unsP unsP_le rd_V wrap_one wrap_add hd_len eq_list unsafe_f)
open Go.Proofs.YtikhboebmmmopaaGreatDoor.Plain (ins mem_ins ins_sorted ins_length)

/-! ### With -/
theorem with_end (l : List (List UInt8)) (s : List UInt8) (i : Nat) (hl : l.length ≤ 1000000) :
    ((some (([] : List ByteArray) : List ByteArray)).bind fun y186 => ((some ((l.map txt).take i : List ByteArray)).bind fun y189 => (if y186.length + y189.length < 8796093022208 then ((some (y186 ++ y189 : List ByteArray)).bind fun y193 => ((some (([txt s] : List ByteArray) : List ByteArray)).bind fun y196 => (if y193.length + y196.length < 8796093022208 then ((some (y193 ++ y196 : List ByteArray)).bind fun y199 => ((some ((l.map txt).drop i : List ByteArray)).bind fun y202 => (if y199.length + y202.length < 8796093022208 then (some (y199 ++ y202)) else (none)))) else (none)))) else (none)))) = some ((l.take i ++ s :: l.drop i).map txt) := by
  have hlm : (l.map txt).length = l.length := List.length_map ..
  have h1 : ((l.map txt).take i).length ≤ 1000000 := by rw [List.length_take]; omega
  have h2 : ((l.map txt).drop i).length ≤ 1000000 := by rw [List.length_drop]; omega
  simp only [Option.bind_some, List.nil_append]
  have c1 : ([] : List ByteArray).length + ((l.map txt).take i).length < 8796093022208 := by simp only [List.length_nil]; omega
  have c2 : ((l.map txt).take i).length + [txt s].length < 8796093022208 := by simp only [List.length_cons, List.length_nil]; omega
  have c3 : ((l.map txt).take i ++ [txt s]).length + ((l.map txt).drop i).length < 8796093022208 := by rw [List.length_append]; simp only [List.length_cons, List.length_nil]; omega
  rw [if_pos c1, if_pos c2, if_pos c3]
  congr 1
  rw [List.map_append, List.map_cons, List.map_take, List.map_drop, List.append_assoc]
  rfl
theorem with_l0 (l : List (List UInt8)) (s : List UInt8) (hl : l.length ≤ 1000000) (d : Nat) : ∀ (k i : Nat), l.length - i = d → i ≤ l.length → d < k →
    transeptref10_With.l0 k (l.map txt) (txt s) (i : Int) = some ((l.take i ++ ins s (l.drop i)).map txt) := by
  have hlm : (l.map txt).length = l.length := List.length_map ..
  induction d with
  | zero =>
    intro k i hd' hi hk
    obtain ⟨k, rfl⟩ : ∃ m, k = m + 1 := ⟨k - 1, by omega⟩
    have c1 : ¬ (i : Int) < ((l.map txt).length : Int) := by omega
    have c2 : (0 : Int) ≤ (i : Int) := by omega
    have c3 : (i : Int) ≤ ((l.map txt).length : Int) := by omega
    have hE := with_end l s i hl
    have hdn : l.drop i = [] := List.drop_eq_nil_of_le (by omega)
    simp only [transeptref10_With.l0, if_neg c1, if_pos c2, if_pos c3, Int.toNat_natCast]
    rw [hdn] at hE ⊢
    exact hE
  | succ d ih =>
    intro k i hd' hi hk
    obtain ⟨k, rfl⟩ : ∃ m, k = m + 1 := ⟨k - 1, by omega⟩
    have hli : i < l.length := by omega
    have c1 : (i : Int) < ((l.map txt).length : Int) := by omega
    have c2 : (0 : Int) ≤ (i : Int) := by omega
    have c3 : (i : Int) ≤ ((l.map txt).length : Int) := by omega
    have b5 : i + 1 ≤ 9223372036854775807 := by omega
    have hrd : rdOf ByteArray.empty (l.map txt) (i : Int) = txt l[i] := by rw [rd_V _ i (by omega), List.getElem_map]
    have hE := with_end l s i hl
    have hI := ih k (i + 1) (by omega) (by omega) (by omega)
    have hdr := List.drop_eq_getElem_cons hli
    have htk := List.take_succ_eq_append_getElem hli
    have hwhole := List.take_append_drop i l
    rw [hdr] at hE hwhole ⊢
    rw [htk] at hI
    generalize l[i] = x at hrd hE hI hwhole ⊢
    have hb : Op.bytesLess (txt x).toList (txt s).toList = decide (x < s) := by
      rw [PureZ.ftl, PureZ.ftl, bytesLess_eq]
    have w := wrap_one i b5
    simp only [transeptref10_With.l0, if_pos c1, if_pos c2, if_pos c3, hrd, hb, w, Int.toNat_natCast]
    unfold ins
    by_cases q1 : x < s
    · rw [decide_eq_true q1, if_pos rfl, if_pos q1, hI, List.append_assoc]
      rfl
    · rw [decide_eq_false q1, if_neg (by decide), if_neg q1, PureZ.ftl, PureZ.ftl]
      by_cases q2 : x = s
      · rw [if_pos q2, if_pos q2, hwhole]
      · rw [if_neg q2, if_neg q2]
        exact hE
theorem with_f (l : List (List UInt8)) (s : List UInt8) (hl : l.length ≤ 1000000) (k : Nat) (hk : l.length < k) : transeptref10_With.f k (l.map txt) (txt s) = some ((ins s l).map txt) := by
  unfold transeptref10_With.f
  have := with_l0 l s hl l.length k 0 rfl (Nat.zero_le _) hk
  rw [List.take_zero, List.drop_zero, List.nil_append] at this
  exact this

/-! ### Unsafe -/
abbrev Up (l : List (List UInt8)) : Prop := l.Pairwise (fun x y => x < y)
def conv (f : S28) : S29 := ⟨f.f0, f.f1⟩
theorem rd_C (l : List S28) (i : Nat) (h : i < l.length) : rd_T29 (l.map conv) (i : Int) = conv l[i] := by
  unfold rd_T29
  rw [Int.toNat_natCast, List.getD, List.getElem?_map, List.getElem?_eq_getElem h]
  rfl
theorem runs_l1 (n : Nat) (sf : List (List UInt8)) (hsf : sf.length ≤ 1000) (d : Nat) : ∀ (k j : Nat) (out : List (List UInt8)), sf.length - j = d → j ≤ sf.length → d + 5000 < k → Up out → out.length + d ≤ 3000 →
    ∃ F, transeptref12_Unsafe.l1 k (out.map txt) (sf.map txt) (n : Int) (j : Int) = some (F.map txt) ∧ Up F ∧ ∀ x, x ∈ F ↔ (x ∈ out ∨ (1024 < n ∧ x ∈ sf.drop j)) := by
  have hlm : (sf.map txt).length = sf.length := List.length_map ..
  induction d with
  | zero =>
    intro k j out hd' hj hk hup hol
    obtain ⟨k, rfl⟩ : ∃ m, k = m + 1 := ⟨k - 1, by omega⟩
    have c1 : ¬ (j : Int) < ((sf.map txt).length : Int) := by omega
    refine ⟨out, ?_, hup, fun x => ?_⟩
    · simp only [transeptref12_Unsafe.l1, if_neg c1]
    · rw [List.drop_eq_nil_of_le (by omega)]
      simp
  | succ d ih =>
    intro k j out hd' hj hk hup hol
    obtain ⟨k, rfl⟩ : ∃ m, k = m + 1 := ⟨k - 1, by omega⟩
    have hli : j < sf.length := by omega
    have c1 : (j : Int) < ((sf.map txt).length : Int) := by omega
    have c2 : (0 : Int) ≤ (j : Int) := by omega
    have b5 : j + 1 ≤ 9223372036854775807 := by omega
    have hrd : rdOf ByteArray.empty (sf.map txt) (j : Int) = txt sf[j] := by rw [rd_V _ j (by omega), List.getElem_map]
    have hdr := List.drop_eq_getElem_cons hli
    by_cases hn : (n : Int) > 1024
    · have hn' : 1024 < n := by omega
      have hil := ins_length sf[j] out
      have hW := with_f out sf[j] (by omega) k (by omega)
      obtain ⟨F, h1, h2, h3⟩ := ih k (j + 1) (ins sf[j] out) (by omega) (by omega) (by omega) (ins_sorted _ _ hup) (by omega)
      have w := wrap_one j b5
      refine ⟨F, ?_, h2, fun x => ?_⟩
      · simp only [transeptref12_Unsafe.l1, if_pos c1, if_pos hn, if_pos c2, hrd, hW, Option.bind_some, w]
        exact h1
      · rw [h3 x, mem_ins, hdr, List.mem_cons]
        constructor
        · rintro ((h | h) | ⟨_, h⟩)
          · exact .inr ⟨hn', .inl h⟩
          · exact .inl h
          · exact .inr ⟨hn', .inr h⟩
        · rintro (h | ⟨_, h | h⟩)
          · exact .inl (.inr h)
          · exact .inl (.inl h)
          · exact .inr ⟨hn', h⟩
    · refine ⟨out, ?_, hup, fun x => ?_⟩
      · simp only [transeptref12_Unsafe.l1, if_pos c1, if_neg hn]
      · constructor
        · exact .inl
        · rintro (h | ⟨h, _⟩)
          · exact h
          · omega
theorem runs_l0 {l : List S28} (hF : Fits l) (hl : l.length ≤ 100) (d : Nat) : ∀ (k i : Nat) (out sf : List (List UInt8)) (n : Nat), l.length - i = d → i ≤ l.length → d + 4000000000000000 < k → Up out → Up sf → out.length ≤ i → sf.length ≤ i → n ≤ 128 * i →
    ∃ F, transeptref12_Unsafe.l0 k (l.map conv) (out.map txt) (sf.map txt) (n : Int) (i : Int) = some (F.map txt) ∧ Up F ∧ ∀ x, x ∈ F ↔ (x ∈ out ∨ (∃ f, f ∈ l.drop i ∧ field_Names.key f = x ∧ hd f = false) ∨ (1024 < n + Plain.good hd ln (l.drop i) ∧ (x ∈ sf ∨ ∃ f, f ∈ l.drop i ∧ field_Names.key f = x ∧ hd f = true))) := by
  have hlm : (l.map conv).length = l.length := List.length_map ..
  induction d with
  | zero =>
    intro k i out sf n hd' hi hk hup hus hol hsl hn
    obtain ⟨k, rfl⟩ : ∃ m, k = m + 1 := ⟨k - 1, by omega⟩
    have c1 : ¬ (i : Int) < ((l.map conv).length : Int) := by omega
    obtain ⟨F, h1, h2, h3⟩ := runs_l1 n sf (by omega) sf.length k 0 out rfl (Nat.zero_le _) (by omega) hup (by omega)
    refine ⟨F, ?_, h2, fun x => ?_⟩
    · simp only [transeptref12_Unsafe.l0, if_neg c1]
      exact h1
    · rw [h3 x, List.drop_zero, List.drop_eq_nil_of_le (by omega)]
      have e0 : Plain.good hd ln [] = 0 := rfl
      rw [e0, Nat.add_zero]
      constructor
      · rintro (h | ⟨h, h'⟩)
        · exact .inl h
        · exact .inr (.inr ⟨h, .inl h'⟩)
      · rintro (h | ⟨f, h, _⟩ | ⟨h, h' | ⟨f, h', _⟩⟩)
        · exact .inl h
        · cases h
        · exact .inr ⟨h, h'⟩
        · cases h'
  | succ d ih =>
    intro k i out sf n hd' hi hk hup hus hol hsl hn
    obtain ⟨k, rfl⟩ : ∃ m, k = m + 1 := ⟨k - 1, by omega⟩
    have hli : i < l.length := by omega
    have c1 : (i : Int) < ((l.map conv).length : Int) := by omega
    have c2 : (0 : Int) ≤ (i : Int) := by omega
    have b5 : i + 1 ≤ 9223372036854775807 := by omega
    have hrd := rd_C l i hli
    have hmem := List.getElem_mem hli
    have hdr := List.drop_eq_getElem_cons hli
    generalize l[i] = f at hrd hmem hdr
    have s0 := hF.name f hmem
    have s1 := hF.value f hmem
    have sB : f.f0.size ≤ Big := by unfold Ext.Big; exact Nat.le_trans s0 (by decide)
    have hlow := PureZ.frlower f.f0 sB
    have hz : (txt (Plain.lower f.f0.data.toList)).size ≤ 140737488351300 := by rw [Ext.txt_size, Plain.lower_length, len_eq]; exact s0
    have hhd := PureZ.rheader_f (txt (Plain.lower f.f0.data.toList)) f.f1 hz s1 k (by omega)
    rw [Ext.txt_data, Plain.hdr_lower] at hhd
    have hhd' : transeptref12_Header.f k (txt (Plain.lower f.f0.data.toList)) f.f1 = some (hd f) := hhd
    have hko : Plain.lower f.f0.data.toList = field_Names.key f := rfl
    rw [hko] at hlow hhd'
    have hWs := with_f sf (field_Names.key f) (by omega) k (by omega)
    have hWo := with_f out (field_Names.key f) (by omega) k (by omega)
    have hls := ins_length (field_Names.key f) sf
    have hlo := ins_length (field_Names.key f) out
    have w := wrap_one i b5
    rw [hdr, Plain.good_cons]
    have hx : transeptref12_Unsafe.l0 (k + 1) (l.map conv) (out.map txt) (sf.map txt) (n : Int) (i : Int) = (if hd f = true then transeptref12_Unsafe.l0 k (l.map conv) (out.map txt) ((ins (field_Names.key f) sf).map txt) (wrap64 ((n : Int) + (f.f1.size : Int))) ((i + 1 : Nat) : Int) else transeptref12_Unsafe.l0 k (l.map conv) ((ins (field_Names.key f) out).map txt) (sf.map txt) (n : Int) ((i + 1 : Nat) : Int)) := by
      have e0 : (conv f).f0 = f.f0 := rfl
      have e1 : (conv f).f1 = f.f1 := rfl
      simp only [transeptref12_Unsafe.l0, if_pos c1, if_pos c2, hrd, e0, e1, hlow, hhd', hWs, hWo, Option.bind_some, w]
    clear hlow hhd hhd' hWs hWo w hrd
    by_cases hh : hd f = true
    · have hle := hd_len hh
      have hln : ln f = f.f1.size := rfl
      have b6 : n + ln f ≤ 9223372036854775807 := by omega
      have b7 : n + ln f ≤ 128 * (i + 1) := by omega
      obtain ⟨F, h1, h2, h3⟩ := ih k (i + 1) out (ins (field_Names.key f) sf) (n + ln f) (by omega) (by omega) (by omega) hup (ins_sorted _ _ hus) (by omega) (by omega) b7
      have w2 := wrap_add n (ln f) b6
      rw [hln] at w2 h1
      refine ⟨F, ?_, h2, fun x => ?_⟩
      · rw [hx, if_pos hh, w2]
        exact h1
      · rw [h3 x, if_pos hh, Nat.add_assoc, mem_ins]
        constructor
        · rintro (h | ⟨g, a1, a2, a3⟩ | ⟨hg, (h | h) | ⟨g, a1, a2, a3⟩⟩)
          · exact .inl h
          · exact .inr (.inl ⟨g, List.mem_cons_of_mem _ a1, a2, a3⟩)
          · exact .inr (.inr ⟨hg, .inr ⟨f, List.mem_cons_self .., h.symm, hh⟩⟩)
          · exact .inr (.inr ⟨hg, .inl h⟩)
          · exact .inr (.inr ⟨hg, .inr ⟨g, List.mem_cons_of_mem _ a1, a2, a3⟩⟩)
        · rintro (h | ⟨g, a1, a2, a3⟩ | ⟨hg, h | ⟨g, a1, a2, a3⟩⟩)
          · exact .inl h
          · rcases List.mem_cons.1 a1 with rfl | a1
            · rw [hh] at a3
              cases a3
            · exact .inr (.inl ⟨g, a1, a2, a3⟩)
          · exact .inr (.inr ⟨hg, .inl (.inr h)⟩)
          · rcases List.mem_cons.1 a1 with rfl | a1
            · exact .inr (.inr ⟨hg, .inl (.inl a2.symm)⟩)
            · exact .inr (.inr ⟨hg, .inr ⟨g, a1, a2, a3⟩⟩)
    · have hf := Bool.eq_false_iff.2 hh
      have b7 : n ≤ 128 * (i + 1) := by omega
      obtain ⟨F, h1, h2, h3⟩ := ih k (i + 1) (ins (field_Names.key f) out) sf n (by omega) (by omega) (by omega) (ins_sorted _ _ hup) hus (by omega) (by omega) b7
      refine ⟨F, ?_, h2, fun x => ?_⟩
      · rw [hx, if_neg hh]
        exact h1
      · rw [h3 x, if_neg hh, Nat.zero_add, mem_ins]
        constructor
        · rintro ((h | h) | ⟨g, a1, a2, a3⟩ | ⟨hg, h | ⟨g, a1, a2, a3⟩⟩)
          · exact .inr (.inl ⟨f, List.mem_cons_self .., h.symm, hf⟩)
          · exact .inl h
          · exact .inr (.inl ⟨g, List.mem_cons_of_mem _ a1, a2, a3⟩)
          · exact .inr (.inr ⟨hg, .inl h⟩)
          · exact .inr (.inr ⟨hg, .inr ⟨g, List.mem_cons_of_mem _ a1, a2, a3⟩⟩)
        · rintro (h | ⟨g, a1, a2, a3⟩ | ⟨hg, h | ⟨g, a1, a2, a3⟩⟩)
          · exact .inl (.inr h)
          · rcases List.mem_cons.1 a1 with rfl | a1
            · exact .inl (.inl a2.symm)
            · exact .inr (.inl ⟨g, a1, a2, a3⟩)
          · exact .inr (.inr ⟨hg, .inl h⟩)
          · rcases List.mem_cons.1 a1 with rfl | a1
            · rw [hf] at a3
              cases a3
            · exact .inr (.inr ⟨hg, .inr ⟨g, a1, a2, a3⟩⟩)
theorem runsafe_f {l : List S28} (hF : Fits l) (hl : l.length ≤ 100) (k : Nat) (hk : 5000000000000000 < k) : transeptref12_Unsafe.f k (l.map conv) = some ((unsP l).map txt) := by
  obtain ⟨F, h1, h2, h3⟩ := runs_l0 hF hl l.length k 0 [] [] 0 rfl (Nat.zero_le _) (by omega) List.Pairwise.nil List.Pairwise.nil (Nat.zero_le _) (Nat.zero_le _) (Nat.zero_le _)
  have e : F = unsP l := Plain.strict_ext h2 (Plain.uns_sorted hd ln field_Names.key l) fun x => by
    refine (h3 x).trans (Iff.trans ?_ (Plain.mem_uns hd ln field_Names.key x l).symm)
    rw [List.drop_zero, Nat.zero_add]
    constructor
    · rintro (h | ⟨f, a1, a2, a3⟩ | ⟨hg, h | ⟨f, a1, a2, a3⟩⟩)
      · cases h
      · exact ⟨f, a1, a2, .inl a3⟩
      · cases h
      · exact ⟨f, a1, a2, .inr hg⟩
    · rintro ⟨f, a1, a2, a3⟩
      cases hh : hd f
      · exact .inr (.inl ⟨f, a1, a2, hh⟩)
      · rcases a3 with a3 | a3
        · rw [hh] at a3
          cases a3
        · exact .inr (.inr ⟨a3, .inr ⟨f, a1, a2, hh⟩⟩)
  rw [e] at h1
  unfold transeptref12_Unsafe.f
  exact h1

/-! ### Same, the law -/
theorem samel_l0 (l : List ByteArray) (hl : l.length ≤ 1000000) (d : Nat) : ∀ (k i : Nat), l.length - i = d → i ≤ l.length → d < k → transeptref09_Same.l0 k l l (i : Int) = some true := by
  induction d with
  | zero =>
    intro k i hd' hi hk
    obtain ⟨k, rfl⟩ : ∃ m, k = m + 1 := ⟨k - 1, by omega⟩
    simp only [transeptref09_Same.l0]
    rw [if_neg (by omega)]
  | succ d ih =>
    intro k i hd' hi hk
    obtain ⟨k, rfl⟩ : ∃ m, k = m + 1 := ⟨k - 1, by omega⟩
    have c1 : (i : Int) < (l.length : Int) := by omega
    have c2 : (0 : Int) ≤ (i : Int) := by omega
    have b5 : i + 1 ≤ 9223372036854775807 := by omega
    have hI := ih k (i + 1) (by omega) (by omega) (by omega)
    have w := wrap_one i b5
    simp only [transeptref09_Same.l0, if_pos c1, if_pos c2, if_true, w]
    exact hI
theorem samel_f (l : List ByteArray) (hl : l.length ≤ 1000000) (k : Nat) (hk : l.length < k) : transeptref09_Same.f k l l = some true := by
  unfold transeptref09_Same.f
  rw [if_pos rfl]
  exact samel_l0 l hl l.length k 0 rfl (Nat.zero_le _) hk
theorem lists_l0 {l : List S28} (hF : Fits l) (hl : l.length ≤ 100) (d : Nat) : ∀ (k i : Nat), l.length - i = d → i ≤ l.length → d + 6000000000000000 < k →
    transeptlaw12_SafeLists.l0 k l true ((l.take i).map conv) (i : Int) = some true := by
  have hul := unsP_le l
  induction d with
  | zero =>
    intro k i hd' hi hk
    obtain ⟨k, rfl⟩ : ∃ m, k = m + 1 := ⟨k - 1, by omega⟩
    have c1 : ¬ (i : Int) < (l.length : Int) := by omega
    have u1 := unsafe_f hF k (by omega)
    have u2 := runsafe_f hF hl k (by omega)
    have hS := samel_f ((unsP l).map txt) (by rw [List.length_map]; omega) k (by rw [List.length_map]; omega)
    rw [List.take_of_length_le (show l.length ≤ i by omega)]
    simp only [transeptlaw12_SafeLists.l0, if_neg c1, if_true, u1, u2, hS, Option.bind_some]
  | succ d ih =>
    intro k i hd' hi hk
    obtain ⟨k, rfl⟩ : ∃ m, k = m + 1 := ⟨k - 1, by omega⟩
    have hli : i < l.length := by omega
    have c1 : (i : Int) < (l.length : Int) := by omega
    have c2 : (0 : Int) ≤ (i : Int) := by omega
    have c3 : ((l.take i).map conv).length < 4398046511104 := by rw [List.length_map, List.length_take]; omega
    have b5 : i + 1 ≤ 9223372036854775807 := by omega
    have hI := ih k (i + 1) (by omega) (by omega) (by omega)
    have hrd := PureS.rd_F l i hli
    rw [List.take_succ_eq_append_getElem hli, List.map_append] at hI
    generalize l[i] = f at hrd hI
    have w := wrap_one i b5
    simp only [transeptlaw12_SafeLists.l0, if_pos c1, if_pos c2, if_pos c3, hrd, w]
    exact hI
theorem SafeLists (l0 : List S28) (h0 : ∀ s ∈ l0, s.f0.size ≤ 140737488351232 ∧ s.f1.size ≤ 140737488351232) : ∃ k, transeptlaw12_SafeLists.f k l0 = some true := by
  obtain ⟨k, hk⟩ : ∃ k : Nat, 9000000000000000 < k := ⟨_, Nat.lt_succ_self _⟩
  refine ⟨k, ?_⟩
  have hmn : mn (l0.length : Int) 100 = ((min l0.length 100 : Nat) : Int) := by
    unfold mn
    split <;> omega
  have c1 : (0 : Int) ≤ ((min l0.length 100 : Nat) : Int) := by omega
  have c2 : ((min l0.length 100 : Nat) : Int) ≤ (l0.length : Int) := by omega
  have hlen : (l0.take (min l0.length 100)).length ≤ 100 := by rw [List.length_take]; omega
  have hF : Fits (l0.take (min l0.length 100)) := ⟨by omega, fun f hf => Nat.le_trans (h0 f (List.mem_of_mem_take hf)).1 (by decide), fun f hf => Nat.le_trans (h0 f (List.mem_of_mem_take hf)).2 (by decide)⟩
  unfold transeptlaw12_SafeLists.f
  rw [show transeptlaw12_shown.f k = some true from rfl, hmn]
  simp only [Option.bind_some, if_pos c1, if_pos c2, Int.toNat_natCast]
  generalize l0.take (min l0.length 100) = l at hF hlen
  have := lists_l0 hF hlen l.length k 0 rfl (Nat.zero_le _) (by omega)
  rw [List.take_zero] at this
  exact this
end Go.Proofs.YtikhboebmmmopaaGreatDoor.Pure
