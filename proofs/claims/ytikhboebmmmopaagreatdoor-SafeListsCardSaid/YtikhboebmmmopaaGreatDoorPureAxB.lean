/-
  PLAIN LAWS: what the printed functions of the reference of layer 9 (In, Alnum, Name, Strip, Trim) come to, in the words of the Plain text. Conditions: rounds enough; sizes that an int holds.
-/
import Derived.Test.YtikhboebmmmopaaGreatDoorFunxB
namespace Go.Proofs.YtikhboebmmmopaaGreatDoor.Fun
open Go.RowKit Go.Proofs.YtikhboebmmmopaaGreatDoorW.PrintWords
open Go.Proofs.YtikhboebmmmopaaGreatDoor.Ext (txt Big)

theorem wrap_in {i : Int} (h0 : -9223372036854775808 ≤ i) (h1 : i ≤ 9223372036854775807) : wrap64 i = i := by
  unfold wrap64
  omega
theorem bt_nat (s : ByteArray) (i : Nat) (h : i < s.data.toList.length) : bt s (i : Int) = (s.data.toList[i].toNat : Int) := by
  have h' : i < s.size := by rw [Lib.size_eq]; exact h
  have := bt_at s (i : Int) (by rw [Int.toNat_natCast]; exact h')
  rw [← this]
  rfl
theorem len_eq (s : ByteArray) : s.data.toList.length = s.size := (Lib.size_eq s).symm
theorem list_eq (s : ByteArray) : s.toList = s.data.toList := Lib.toList_data s
theorem drop_cons {α : Type} {l : List α} {i : Nat} (h : i < l.length) : l.drop i = l[i] :: l.drop (i + 1) := List.drop_eq_getElem_cons h
theorem drop_end {α : Type} {l : List α} {i : Nat} (h : l.length ≤ i) : l.drop i = [] := List.drop_eq_nil_of_le h

/-! ### In -/
def inI (l : List UInt8) (c : Int) : Bool := l.any fun b => decide ((b.toNat : Int) = c)
theorem inI_cons (b : UInt8) (l : List UInt8) (c : Int) : inI (b :: l) c = (decide ((b.toNat : Int) = c) || inI l c) := rfl
theorem in_l0 (s : ByteArray) (c : Int) (hs : s.size ≤ Big) (d : Nat) : ∀ (k i : Nat), s.size - i = d → i ≤ s.size → d < k → transeptref09_In.l0 k s c (i : Int) = some (inI (s.data.toList.drop i) c) := by
  induction d with
  | zero =>
    intro k i hd hi hk
    obtain ⟨k, rfl⟩ : ∃ m, k = m + 1 := ⟨k - 1, by omega⟩
    simp only [transeptref09_In.l0]
    rw [if_neg (by omega), drop_end (by rw [len_eq]; omega)]
    rfl
  | succ d ih =>
    intro k i hd hi hk
    obtain ⟨k, rfl⟩ : ∃ m, k = m + 1 := ⟨k - 1, by omega⟩
    have hl : i < s.data.toList.length := by rw [len_eq]; omega
    have hb : s.size ≤ 9223372036854775807 := hs
    simp only [transeptref09_In.l0]
    rw [if_pos (by omega), if_pos (by omega), bt_nat s i hl, drop_cons hl, wrap_in (by omega) (by omega)]
    by_cases h : (s.data.toList[i].toNat : Int) = c
    · rw [if_pos h, inI_cons, decide_eq_true h]
      rfl
    · rw [if_neg h, show ((i : Int) + 1) = ((i + 1 : Nat) : Int) from by omega, ih k (i + 1) (by omega) (by omega) (by omega), inI_cons, decide_eq_false h]
      rfl
theorem in_f (s : ByteArray) (c : Int) (hs : s.size ≤ Big) (k : Nat) (hk : s.size < k) : transeptref09_In.f k s c = some (inI s.data.toList c) := by
  have := in_l0 s c hs s.size k 0 (by omega) (by omega) hk
  unfold transeptref09_In.f
  rw [show (0 : Int) = ((0 : Nat) : Int) from rfl, this, List.drop_zero]
theorem inI_byte (l : List UInt8) (b : UInt8) : inI l (b.toNat : Int) = l.contains b := by
  rw [Bool.eq_iff_iff]
  simp only [inI, List.any_eq_true, List.contains_iff_mem, decide_eq_true_eq]
  constructor
  · rintro ⟨x, hx, h⟩
    have : x.toNat = b.toNat := by omega
    rw [← UInt8.toNat_inj.1 this]; exact hx
  · intro h; exact ⟨b, h, rfl⟩

/-! ### Alnum, Name -/
theorem alnum_f (b : UInt8) : transeptref09_Alnum.f (b.toNat : Int) = some (Plain.isAlnum b) := by
  have := Plain.all_bytes (p := fun b => transeptref09_Alnum.f (b.toNat : Int) == some (Plain.isAlnum b)) (by decide +kernel) b
  simpa using this
theorem name_l0 (s : ByteArray) (hs : s.size ≤ Big) (d : Nat) : ∀ (k i : Nat), s.size - i = d → i ≤ s.size → d + 16 < k → transeptref09_Name.l0 k s (i : Int) = some ((s.data.toList.drop i).all Plain.isTok && !s.data.toList.isEmpty) := by
  induction d with
  | zero =>
    intro k i hd hi hk
    obtain ⟨k, rfl⟩ : ∃ m, k = m + 1 := ⟨k - 1, by omega⟩
    simp only [transeptref09_Name.l0]
    rw [if_neg (by omega), drop_end (by rw [len_eq]; omega), list_eq]
    cases s.data.toList <;> rfl
  | succ d ih =>
    intro k i hd hi hk
    obtain ⟨k, rfl⟩ : ∃ m, k = m + 1 := ⟨k - 1, by omega⟩
    have hl : i < s.data.toList.length := by rw [len_eq]; omega
    have hb : s.size ≤ 9223372036854775807 := hs
    simp only [transeptref09_Name.l0]
    rw [if_pos (by omega), if_pos (by omega), bt_nat s i hl, drop_cons hl, wrap_in (by omega) (by omega), alnum_f]
    simp only [Option.bind_some]
    rw [in_f _ _ (by decide +kernel) k (by show 15 < k; omega), inI_byte, show ((i : Int) + 1) = ((i + 1 : Nat) : Int) from by omega, ih k (i + 1) (by omega) (by omega) (by omega)]
    simp only [Option.bind_some, List.all_cons, Plain.isTok]
    rw [show ([33, 35, 36, 37, 38, 39, 42, 43, 45, 46, 94, 95, 96, 124, 126] : List UInt8) = Plain.marks from rfl]
    cases h1 : Plain.isAlnum s.data.toList[i] with
    | true => simp
    | false => cases h2 : Plain.marks.contains s.data.toList[i] with
      | true => simp
      | false => simp
theorem name_f (s : ByteArray) (hs : s.size ≤ Big) (k : Nat) (hk : s.size + 16 < k) : transeptref09_Name.f k s = some (Plain.nameB s.data.toList) := by
  have := name_l0 s hs s.size k 0 (by omega) (by omega) hk
  unfold transeptref09_Name.f
  rw [show (0 : Int) = ((0 : Nat) : Int) from rfl, this, List.drop_zero]
  unfold Plain.nameB
  rw [Bool.and_comm]

/-! ### Strip -/
def setP (cs : List UInt8) (b : UInt8) : Bool := cs.contains b
theorem extract_list (s : ByteArray) (a b : Nat) : s.extract a b = txt ((s.data.toList.drop a).take (b - a)) := by
  rw [Lib.extract_eq]
  rfl
/-- from behind -/
theorem strip_l1 (s cs : ByteArray) (hs : s.size ≤ Big) (hc : cs.size ≤ Big) (a : Nat) (d : Nat) : ∀ (k b : Nat), b - a = d → a ≤ b → b ≤ s.size → d + cs.size + 1 < k →
    transeptref09_Strip.l1 k s cs (a : Int) (b : Int) = some (txt ((((s.data.toList.drop a).take (b - a)).reverse.dropWhile (setP cs.data.toList)).reverse)) := by
  induction d with
  | zero =>
    intro k b hd hab hb hk
    obtain ⟨k, rfl⟩ : ∃ m, k = m + 1 := ⟨k - 1, by omega⟩
    obtain rfl : b = a := by omega
    simp only [transeptref09_Strip.l1]
    rw [if_neg (by omega), if_pos (by omega), if_pos (by omega), if_pos (by omega), extract_list]
    simp
  | succ d ih =>
    intro k b hd hab hb hk
    obtain ⟨k, rfl⟩ : ∃ m, k = m + 1 := ⟨k - 1, by omega⟩
    have hbig : s.size ≤ 9223372036854775807 := hs
    have hl : b - 1 < s.data.toList.length := by rw [len_eq]; omega
    simp only [transeptref09_Strip.l1]
    rw [wrap_in (i := (b : Int) - 1) (by omega) (by omega), if_pos (by omega), if_pos (by omega), if_pos (by omega), show ((b : Int) - 1) = ((b - 1 : Nat) : Int) from by omega, bt_nat s (b - 1) hl, in_f cs _ hc k (by omega), inI_byte]
    simp only [Option.bind_some]
    have hsplit : (s.data.toList.drop a).take (b - a) = (s.data.toList.drop a).take (b - 1 - a) ++ [s.data.toList[b - 1]] := by
      rw [show b - a = (b - 1 - a) + 1 from by omega, List.take_succ_eq_append_getElem (by rw [List.length_drop, len_eq]; omega), List.getElem_drop]
      congr 2
      congr 1
      omega
    rw [hsplit, List.reverse_append, List.reverse_singleton, List.singleton_append, List.dropWhile_cons]
    unfold setP at ih ⊢
    cases h : cs.data.toList.contains s.data.toList[b - 1] with
    | true =>
      rw [if_pos rfl, if_pos rfl]
      exact ih k (b - 1) (by omega) (by omega) (by omega) (by omega)
    | false =>
      simp only [Bool.false_eq_true, if_false]
      rw [if_pos (by omega), if_pos (by omega), if_pos (by omega), extract_list, Int.toNat_natCast, Int.toNat_natCast, hsplit, List.reverse_cons, List.reverse_reverse]
theorem strip_l0 (s cs : ByteArray) (hs : s.size ≤ Big) (hc : cs.size ≤ Big) (d : Nat) : ∀ (k i : Nat), s.size - i = d → i ≤ s.size → d + d + cs.size + 4 < k →
    transeptref09_Strip.l0 k s cs (i : Int) = some (txt (Plain.trimP (setP cs.data.toList) (s.data.toList.drop i))) := by
  have tail : ∀ (k i : Nat), i ≤ s.size → (s.size - i) + cs.size + 2 < k → (∀ c, (s.data.toList.drop i).head? = some c → setP cs.data.toList c = false) → transeptref09_Strip.j1 k s cs (i : Int) = some (txt (Plain.trimP (setP cs.data.toList) (s.data.toList.drop i))) := by
    intro k i hi hk hh
    obtain ⟨k, rfl⟩ : ∃ m, k = m + 1 := ⟨k - 1, by omega⟩
    simp only [transeptref09_Strip.j1]
    rw [strip_l1 s cs hs hc i (s.size - i) k s.size rfl hi (Nat.le_refl _) (by omega), List.take_of_length_le (by rw [List.length_drop, len_eq]; exact Nat.le_refl _)]
    unfold Plain.trimP
    rw [Plain.dropWhile_id hh]
  induction d with
  | zero =>
    intro k i hd hi hk
    obtain ⟨k, rfl⟩ : ∃ m, k = m + 1 := ⟨k - 1, by omega⟩
    simp only [transeptref09_Strip.l0]
    rw [if_neg (by omega)]
    exact tail k i hi (by omega) (by rw [drop_end (by rw [len_eq]; omega)]; intro c hc; cases hc)
  | succ d ih =>
    intro k i hd hi hk
    obtain ⟨k, rfl⟩ : ∃ m, k = m + 1 := ⟨k - 1, by omega⟩
    have hl : i < s.data.toList.length := by rw [len_eq]; omega
    have hb : s.size ≤ 9223372036854775807 := hs
    simp only [transeptref09_Strip.l0]
    rw [if_pos (by omega), if_pos (by omega), bt_nat s i hl, in_f cs _ hc k (by omega), inI_byte, wrap_in (by omega) (by omega)]
    simp only [Option.bind_some]
    cases h : cs.data.toList.contains s.data.toList[i] with
    | true =>
      rw [if_pos rfl, show ((i : Int) + 1) = ((i + 1 : Nat) : Int) from by omega, ih k (i + 1) (by omega) (by omega) (by omega), drop_cons hl]
      congr 2
      exact (Plain.trimP_left [s.data.toList[i]] _ (by simpa [setP] using h)).symm
    | false =>
      rw [if_neg (by simp)]
      exact tail k i hi (by omega) (by rw [drop_cons hl]; intro c hc; simp at hc; subst hc; exact h)
theorem strip_f (s cs : ByteArray) (hs : s.size ≤ Big) (hc : cs.size ≤ Big) (k : Nat) (hk : s.size + s.size + cs.size + 4 < k) : transeptref09_Strip.f k s cs = some (txt (Plain.trimP (setP cs.data.toList) s.data.toList)) := by
  have := strip_l0 s cs hs hc s.size k 0 (by omega) (by omega) hk
  unfold transeptref09_Strip.f
  rw [show (0 : Int) = ((0 : Nat) : Int) from rfl, this, List.drop_zero]
theorem setP_blank : setP [9, 10, 13, 32] = Plain.isBlank := by
  funext c
  have := Plain.all_bytes (p := fun c => setP [9, 10, 13, 32] c == Plain.isBlank c) (by decide +kernel) c
  simpa using this
theorem rtrim_f (s : ByteArray) (hs : s.size ≤ Big) (k : Nat) (hk : s.size + s.size + 8 < k) : transeptref09_Trim.f k s = some (txt (Plain.trimB s.data.toList)) := by
  unfold transeptref09_Trim.f
  rw [strip_f s _ hs (by decide +kernel) k (by show s.size + s.size + 4 + 4 < k; omega)]
  rw [show (⟨#[9, 10, 13, 32]⟩ : ByteArray).data.toList = [9, 10, 13, 32] from rfl, setP_blank]
  rfl
end Go.Proofs.YtikhboebmmmopaaGreatDoor.Fun
