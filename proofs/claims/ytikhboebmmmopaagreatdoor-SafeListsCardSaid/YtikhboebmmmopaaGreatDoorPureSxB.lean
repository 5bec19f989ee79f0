/-
  PLAIN LAWS: what the printed functions of layer 12 (Header, Method, Never, Reads, Hidden, Names, Unsafe; the statements' own in) come to. Conditions: rounds enough; sizes as told.
-/
import Derived.Test.YtikhboebmmmopaaGreatDoorFunxB
namespace Go.Proofs.YtikhboebmmmopaaGreatDoor.PureS
open Go.RowKit Go.Proofs.YtikhboebmmmopaaGreatDoorW.PrintWords
open Go.Proofs.YtikhboebmmmopaaGreatDoor.Ext (txt Big)
open Go.Proofs.YtikhboebmmmopaaGreatDoor.Fun

theorem wrap_in {i : Int} (h0 : -9223372036854775808 ≤ i) (h1 : i ≤ 9223372036854775807) : wrap64 i = i := by
  unfold wrap64
  omega
theorem len_eq (s : ByteArray) : s.data.toList.length = s.size := (Lib.size_eq s).symm
theorem list_eq (s : ByteArray) : s.toList = s.data.toList := Lib.toList_data s
theorem drop_cons {α : Type} {l : List α} {i : Nat} (h : i < l.length) : l.drop i = l[i] :: l.drop (i + 1) := List.drop_eq_getElem_cons h
theorem drop_end {α : Type} {l : List α} {i : Nat} (h : l.length ≤ i) : l.drop i = [] := List.drop_eq_nil_of_le h
theorem rd_F (l : List S28) (i : Nat) (h : i < l.length) : rd_T28 l (i : Int) = l[i] := by
  unfold rd_T28
  rw [Int.toNat_natCast, List.getD, List.getElem?_eq_getElem h]
  rfl
theorem rd_V (l : List ByteArray) (i : Nat) (h : i < l.length) : rdOf ByteArray.empty l (i : Int) = l[i] := by
  unfold rdOf
  rw [Int.toNat_natCast, List.getD, List.getElem?_eq_getElem h]
  rfl
theorem eq_list (a b : ByteArray) : (a.toList = b.toList) ↔ a = b := by
  rw [list_eq, list_eq]
  exact ⟨Ext.data_inj, fun h => by rw [h]⟩

/-! ### Header, Lower -/
theorem header_f (a b : ByteArray) (ha : a.size ≤ 1152921504606846976) (hb : b.size ≤ 1152921504606846976) : Ext.safe_Header.f a b = some (Plain.hdr a.data.toList b.data.toList) := by
  unfold Ext.safe_Header.f
  rw [if_pos ⟨by omega, hb⟩]
/-! ### Index, Contains, Method -/
def idxI (l : List ByteArray) (x : ByteArray) : Bool := l.any fun y => decide (x = y)
theorem idxI_cons (y : ByteArray) (l : List ByteArray) (x : ByteArray) : idxI (y :: l) x = (decide (x = y) || idxI l x) := rfl
theorem idx_lists (l : List (List UInt8)) (x : List UInt8) : idxI (l.map txt) (txt x) = l.contains x := by
  rw [Bool.eq_iff_iff]
  simp only [idxI, List.any_eq_true, List.mem_map, decide_eq_true_eq, List.contains_iff_mem]
  constructor
  · rintro ⟨y, ⟨z, hz, rfl⟩, h⟩
    rw [Ext.txt_inj h]; exact hz
  · intro h
    exact ⟨txt x, ⟨x, h, rfl⟩, rfl⟩
def lSafe : List (List UInt8) := [[71, 69, 84], [72, 69, 65, 68], [80, 79, 83, 84]]
def safeP (m : List UInt8) : Bool := lSafe.contains (Plain.method m)
/-! ### Never, Reads, Hidden -/
theorem take_prefix (p l : List UInt8) (h : p.length ≤ l.length) : (l.take p.length == p) = p.isPrefixOf l := by
  rw [Bool.eq_iff_iff, beq_iff_eq, List.isPrefixOf_iff_prefix]
  constructor
  · intro e
    have := List.take_append_drop p.length l
    rw [e] at this
    exact ⟨_, this⟩
  · rintro ⟨t, rfl⟩
    exact List.take_left' rfl
/-! ### Names, Unsafe -/
structure Fits (l : List S28) : Prop where
  len : l.length ≤ 1048580
  name : ∀ f ∈ l, f.f0.size ≤ 140737488351300
  value : ∀ f ∈ l, f.f1.size ≤ 140737488351300
theorem names_f (l : List S28) (hl : l.length ≤ 3000000) (hs : ∀ f ∈ l, f.f0.size ≤ 140737488351300) : field_Names.f l = some ((Plain.nm (l.map field_Names.key)).map txt) := by
  unfold field_Names.f
  rw [if_pos ⟨by omega, List.all_eq_true.2 fun f hf => decide_eq_true (by have := hs f hf; omega)⟩]
def hd (f : S28) : Bool := Plain.hdr f.f0.data.toList f.f1.data.toList
def ln (f : S28) : Nat := f.f1.size
def unsP (l : List S28) : List (List UInt8) := Plain.uns hd ln field_Names.key l
theorem hd_len {f : S28} (h : hd f = true) : ln f ≤ 128 := by
  have := Plain.hdr_len h
  rw [len_eq] at this
  exact this
theorem wrap_add (n m : Nat) (h : n + m ≤ 9223372036854775807) : wrap64 ((n : Int) + (m : Int)) = ((n + m : Nat) : Int) := by
  rw [wrap_in (by omega) (by omega)]
  omega
theorem wrap_one (n : Nat) (h : n + 1 ≤ 9223372036854775807) : wrap64 ((n : Int) + 1) = ((n + 1 : Nat) : Int) := wrap_add n 1 h
theorem unsafe_l0 {l : List S28} (h : Fits l) (d : Nat) : ∀ (k i : Nat) (bad gd : List S28) (n : Nat), l.length - i = d → i ≤ l.length → d < k → bad.length + gd.length ≤ i → (∀ f ∈ bad, f ∈ l) → (∀ f ∈ gd, f ∈ l) → n ≤ 128 * i →
    safe_Unsafe.l0 k bad gd (n : Int) l (l.length : Int) (i : Int) = some ((Plain.nm ((if 1024 < n + Plain.good hd ln (l.drop i) then (bad ++ (l.drop i).filter (fun f => !hd f)) ++ (gd ++ (l.drop i).filter hd) else bad ++ (l.drop i).filter (fun f => !hd f)).map field_Names.key)).map txt) := by
  have hlen := h.len
  induction d with
  | zero =>
    intro k i bad gd n hd' hi hk hl hb hg hn
    obtain ⟨k, rfl⟩ : ∃ m, k = m + 1 := ⟨k - 1, by omega⟩
    simp only [safe_Unsafe.l0]
    rw [if_neg (by omega), drop_end (by omega)]
    have e0 : Plain.good hd ln [] = 0 := rfl
    rw [e0, List.filter_nil, List.filter_nil, List.append_nil, List.append_nil, Nat.add_zero]
    by_cases hc : 1024 < n
    · rw [if_pos (by omega), if_pos hc, if_pos (by omega), names_f (bad ++ gd) (by rw [List.length_append]; omega) (fun f hf => by rcases List.mem_append.1 hf with hf | hf; exact h.name f (hb f hf); exact h.name f (hg f hf))]
      rfl
    · rw [if_neg (by omega), if_neg hc, names_f bad (by omega) (fun f hf => h.name f (hb f hf))]
      rfl
  | succ d ih =>
    intro k i bad gd n hd' hi hk hl hb hg hn
    obtain ⟨k, rfl⟩ : ∃ m, k = m + 1 := ⟨k - 1, by omega⟩
    have hli : i < l.length := by omega
    have hmem := List.getElem_mem hli
    have hrd := rd_F l i hli
    have hdr := drop_cons hli
    generalize l[i] = f at hmem hrd hdr
    have h0 := h.name _ hmem
    have h1 := h.value _ hmem
    have hs0 : f.f0.size ≤ 1152921504606846976 := Nat.le_trans h0 (by decide)
    have hs1 : f.f1.size ≤ 1152921504606846976 := Nat.le_trans h1 (by decide)
    have hln : ln f = f.f1.size := rfl
    rw [← hln] at h1
    have hnb : n + ln f ≤ 9223372036854775807 := by omega
    have c1 : (i : Int) < (l.length : Int) := by omega
    have c2 : (0 : Int) ≤ (i : Int) := by omega
    have c3 : gd.length < 4398046511104 := by omega
    have c4 : bad.length < 4398046511104 := by omega
    have c5 : i + 1 ≤ 9223372036854775807 := by omega
    have hx : safe_Unsafe.l0 (k + 1) bad gd (n : Int) l (l.length : Int) (i : Int) = (if hd f = true then safe_Unsafe.l0 k bad (gd ++ [f]) ((n + ln f : Nat) : Int) l (l.length : Int) ((i + 1 : Nat) : Int) else safe_Unsafe.l0 k (bad ++ [f]) gd (n : Int) l (l.length : Int) ((i + 1 : Nat) : Int)) := by
      have hsz := wrap_one i c5
      have hF := header_f f.f0 f.f1 hs0 hs1
      have hw := wrap_add n (ln f) hnb
      rw [hln] at hw
      simp only [safe_Unsafe.l0, if_pos c1, if_pos c2, hrd, hF, Option.bind_some, if_pos c3, if_pos c4, hsz, hw]
      rfl
    rw [hx, hdr]
    by_cases hh : hd f = true
    · have hle := hd_len hh
      have b1 : n + ln f ≤ 128 * (i + 1) := by omega
      have b2 : bad.length + (gd ++ [f]).length ≤ i + 1 := by rw [List.length_append, List.length_singleton]; omega
      rw [if_pos hh, ih k (i + 1) bad (gd ++ [f]) (n + ln f) (by omega) (by omega) (by omega) b2 hb (fun g hg' => by rcases List.mem_append.1 hg' with hg' | hg'; exact hg g hg'; rw [List.mem_singleton.1 hg']; exact hmem) b1]
      rw [Plain.good_cons, if_pos hh, List.filter_cons, hh, Nat.add_assoc, List.filter_cons, hh, List.append_assoc gd]
      rfl
    · have hf := Bool.eq_false_iff.2 hh
      have b1 : n ≤ 128 * (i + 1) := by omega
      have b2 : (bad ++ [f]).length + gd.length ≤ i + 1 := by rw [List.length_append, List.length_singleton]; omega
      rw [if_neg hh, ih k (i + 1) (bad ++ [f]) gd n (by omega) (by omega) (by omega) b2 (fun g hg' => by rcases List.mem_append.1 hg' with hg' | hg'; exact hb g hg'; rw [List.mem_singleton.1 hg']; exact hmem) hg b1]
      rw [Plain.good_cons, if_neg hh, Nat.zero_add, List.filter_cons, hf, List.filter_cons, hf, List.append_assoc bad]
      rfl
theorem unsafe_f {l : List S28} (h : Fits l) (k : Nat) (hk : l.length < k) : safe_Unsafe.f k l = some ((unsP l).map txt) := by
  unfold safe_Unsafe.f
  have := unsafe_l0 h l.length k 0 [] [] 0 (by omega) (by omega) hk (by simp) (by simp) (by simp) (by omega)
  rw [List.drop_zero, Nat.zero_add, List.nil_append, List.nil_append] at this
  exact this
theorem unsP_le (l : List S28) : (unsP l).length ≤ l.length := Plain.uns_length hd ln field_Names.key l
end Go.Proofs.YtikhboebmmmopaaGreatDoor.PureS
