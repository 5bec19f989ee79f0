/-
  PLAIN LAWS: what the printed functions of layer 9 (Value; of the reference: Value, Lower, Method, Never, Same; of the statements: shown) come to, in the words of the Plain text. Conditions: rounds enough; sizes that an int holds.
-/
import Derived.Test.YtkdcgodpobhfhaaDoorPureB
import Derived.Test.YtkdcgodpobhfhaaDoorFun3
namespace Go.Proofs.YtkdcgodpobhfhaaDoor.Fun
open Go.RowKit Go.Proofs.YtkdcgodpobhfhaaDoorW.PrintWords
open Go.Proofs.YtkdcgodpobhfhaaDoor.Ext (txt Big)

theorem txt_list (l : List UInt8) : (txt l).toList = l := by rw [list_eq, Ext.txt_data]
theorem bad_ext (s : ByteArray) (hs : s.size ≤ Big) : Ext.strings_ContainsAny.f s ⟨#[0, 10, 13]⟩ = some (s.data.toList.any Plain.isBad) := by
  unfold Ext.strings_ContainsAny.f
  rw [if_pos ⟨hs, rfl⟩]
theorem tvalue_f (s : ByteArray) (hs : s.size ≤ Big) : token_Value.f s = some (Plain.valueB s.data.toList) := by
  unfold token_Value.f
  rw [trim_f s hs]
  simp only [Option.bind_some]
  rw [bad_ext s hs]
  simp only [Option.bind_some]
  unfold Plain.valueB
  rw [txt_list, list_eq]
  by_cases h : Plain.trimB s.data.toList = s.data.toList
  · rw [if_pos h, beq_iff_eq.2 h, Bool.true_and]
  · rw [if_neg h, beq_eq_false_iff_ne.2 h, Bool.false_and]

theorem bad_byte (c : UInt8) : Plain.isBad c = (decide ((c.toNat : Int) = 0) || decide ((c.toNat : Int) = 10) || decide ((c.toNat : Int) = 13)) := by
  have := Plain.all_bytes (p := fun c => Plain.isBad c == (decide ((c.toNat : Int) = 0) || decide ((c.toNat : Int) = 10) || decide ((c.toNat : Int) = 13))) (by decide +kernel) c
  simpa using this
theorem rvalue_l0 (s : ByteArray) (hs : s.size ≤ Big) (d : Nat) : ∀ (k i : Nat), s.size - i = d → i ≤ s.size → d < k → transeptref09_Value.l0 k s (i : Int) = some (!(s.data.toList.drop i).any Plain.isBad) := by
  induction d with
  | zero =>
    intro k i hd hi hk
    obtain ⟨k, rfl⟩ : ∃ m, k = m + 1 := ⟨k - 1, by omega⟩
    simp only [transeptref09_Value.l0]
    rw [if_neg (by omega), drop_end (by rw [len_eq]; omega)]
    rfl
  | succ d ih =>
    intro k i hd hi hk
    obtain ⟨k, rfl⟩ : ∃ m, k = m + 1 := ⟨k - 1, by omega⟩
    have hl : i < s.data.toList.length := by rw [len_eq]; omega
    have hb : s.size ≤ 9223372036854775807 := hs
    simp only [transeptref09_Value.l0]
    rw [if_pos (by omega), if_pos (by omega), bt_nat s i hl, drop_cons hl, wrap_in (by omega) (by omega), show ((i : Int) + 1) = ((i + 1 : Nat) : Int) from by omega, ih k (i + 1) (by omega) (by omega) (by omega), List.any_cons, bad_byte]
    by_cases h0 : (s.data.toList[i].toNat : Int) = 0
    · rw [if_pos h0, decide_eq_true h0]; rfl
    · rw [if_neg h0, decide_eq_false h0]
      by_cases h10 : (s.data.toList[i].toNat : Int) = 10
      · rw [if_pos h10, decide_eq_true h10]; rfl
      · rw [if_neg h10, decide_eq_false h10]
        by_cases h13 : (s.data.toList[i].toNat : Int) = 13
        · rw [if_pos h13, decide_eq_true h13]; rfl
        · rw [if_neg h13, decide_eq_false h13]; rfl
theorem rvalue_f (s : ByteArray) (hs : s.size ≤ Big) (k : Nat) (hk : s.size + s.size + 8 < k) : transeptref09_Value.f k s = some (Plain.valueB s.data.toList) := by
  have := rvalue_l0 s hs s.size k 0 (by omega) (by omega) (by omega)
  unfold transeptref09_Value.f
  rw [rtrim_f s hs k hk]
  simp only [Option.bind_some]
  rw [show (0 : Int) = ((0 : Nat) : Int) from rfl, this, txt_list, list_eq, List.drop_zero]
  unfold Plain.valueB
  by_cases h : Plain.trimB s.data.toList = s.data.toList
  · rw [if_pos h, beq_iff_eq.2 h, Bool.true_and]
  · rw [if_neg h, beq_eq_false_iff_ne.2 h, Bool.false_and]

theorem rlower_f (s : ByteArray) (hs : s.size ≤ Big) : transeptref09_Lower.f s = some (txt (Plain.lower s.data.toList)) := by
  unfold transeptref09_Lower.f
  rw [Ext.turned_lower s hs]
  rfl
theorem rnever_f (s : ByteArray) (hs : s.size ≤ Big) : transeptref09_Never.f s = some (Plain.never s.data.toList) := by
  unfold transeptref09_Never.f
  rw [Ext.turned_upper s hs]
  simp only [Option.bind_some, txt_list]
  unfold Plain.never Plain.nevers
  by_cases h0 : Plain.upper s.data.toList = [67, 79, 78, 78, 69, 67, 84]
  · rw [if_pos h0, h0]; rfl
  · rw [if_neg h0]
    by_cases h1 : Plain.upper s.data.toList = [84, 82, 65, 67, 69]
    · rw [if_pos h1, h1]; rfl
    · rw [if_neg h1]
      by_cases h2 : Plain.upper s.data.toList = [84, 82, 65, 67, 75]
      · rw [h2]; rfl
      · rw [beq_eq_false_iff_ne.2 h2]
        congr 1
        symm
        rw [Bool.eq_false_iff]
        intro h
        rw [List.contains_iff_mem] at h
        simp [h0, h1, h2] at h
theorem rmethod_l0 (s x : ByteArray) (l : List ByteArray) (hl : l.length ≤ 1000000000) (d : Nat) : ∀ (k i : Nat), l.length - i = d → i ≤ l.length → d < k → transeptref09_Method.l0 k s x l (l.length : Int) (i : Int) = some (if idxI (l.drop i) x then x else s) := by
  induction d with
  | zero =>
    intro k i hd hi hk
    obtain ⟨k, rfl⟩ : ∃ m, k = m + 1 := ⟨k - 1, by omega⟩
    simp only [transeptref09_Method.l0]
    rw [if_neg (by omega), drop_end (by omega)]
    rfl
  | succ d ih =>
    intro k i hd hi hk
    obtain ⟨k, rfl⟩ : ∃ m, k = m + 1 := ⟨k - 1, by omega⟩
    have hli : i < l.length := by omega
    simp only [transeptref09_Method.l0]
    rw [if_pos (by omega), if_pos (by omega), if_pos (by omega), rd_nat l i hli, drop_cons hli, idxI_cons]
    by_cases h : x.toList = l[i].toList
    · have h' := (eq_list _ _).1 h
      rw [if_pos h, decide_eq_true h', Bool.true_or, if_pos rfl, ← h']
    · have h' : ¬ x = l[i] := fun e => h ((eq_list _ _).2 e)
      rw [if_neg h, decide_eq_false h', Bool.false_or, wrap_in (by omega) (by omega), show ((i : Int) + 1) = ((i + 1 : Nat) : Int) from by omega, ih k (i + 1) (by omega) (by omega) (by omega)]
theorem rmethod_f (s : ByteArray) (hs : s.size ≤ Big) (k : Nat) (hk : 6 < k) : transeptref09_Method.f k s = some (txt (Plain.method s.data.toList)) := by
  unfold transeptref09_Method.f
  rw [Ext.turned_upper s hs]
  simp only [Option.bind_some]
  rw [show ([(⟨#[68, 69, 76, 69, 84, 69]⟩ : ByteArray), (⟨#[71, 69, 84]⟩ : ByteArray), (⟨#[72, 69, 65, 68]⟩ : ByteArray), (⟨#[79, 80, 84, 73, 79, 78, 83]⟩ : ByteArray), (⟨#[80, 79, 83, 84]⟩ : ByteArray), (⟨#[80, 85, 84]⟩ : ByteArray)] : List ByteArray) = Plain.methods.map txt from rfl]
  have := rmethod_l0 s (txt (Plain.upper s.data.toList)) (Plain.methods.map txt) (by decide) 6 k 0 rfl (by omega) hk
  rw [show (0 : Int) = ((0 : Nat) : Int) from rfl, this, List.drop_zero, idx_lists]
  unfold Plain.method
  split
  · rfl
  · rfl

theorem same_l0 (l : List ByteArray) (hl : l.length ≤ 9000000000000000000) (d : Nat) : ∀ (k i : Nat), l.length - i = d → i ≤ l.length → d < k → transeptref09_Same.l0 k l l (i : Int) = some true := by
  induction d with
  | zero =>
    intro k i hd hi hk
    obtain ⟨k, rfl⟩ : ∃ m, k = m + 1 := ⟨k - 1, by omega⟩
    simp only [transeptref09_Same.l0]
    rw [if_neg (by omega)]
  | succ d ih =>
    intro k i hd hi hk
    obtain ⟨k, rfl⟩ : ∃ m, k = m + 1 := ⟨k - 1, by omega⟩
    simp only [transeptref09_Same.l0]
    rw [if_pos (by omega), if_pos (by omega), if_pos (by omega)]
    rw [if_pos trivial, wrap_in (by omega) (by omega), show ((i : Int) + 1) = ((i + 1 : Nat) : Int) from by omega, ih k (i + 1) (by omega) (by omega) (by omega)]
theorem same_f (l : List ByteArray) (hl : l.length ≤ 9000000000000000000) (k : Nat) (hk : l.length < k) : transeptref09_Same.f k l l = some true := by
  unfold transeptref09_Same.f
  rw [if_pos rfl]
  exact same_l0 l hl l.length k 0 (by omega) (by omega) hk

theorem name_ext (s : ByteArray) (hs : s.size ≤ Big) : Ext.token_Name.f s = some (Plain.nameB s.data.toList) := by
  unfold Ext.token_Name.f
  rw [if_pos hs]
theorem lower_ext (s : ByteArray) (hs : s.size ≤ Big) : Ext.token_Lower.f s = some (txt (Plain.lower s.data.toList)) := by
  unfold Ext.token_Lower.f
  rw [if_pos hs]
theorem never_ext (s : ByteArray) (hs : s.size ≤ Big) : Ext.token_Never.f s = some (Plain.never s.data.toList) := by
  unfold Ext.token_Never.f
  rw [if_pos hs]
theorem fold_ext (s t : ByteArray) (hs : s.size ≤ Big) (ht : t.size ≤ Big) : Ext.token_Fold.f s t = some (Plain.foldB s.data.toList t.data.toList) := by
  unfold Ext.token_Fold.f
  rw [if_pos ⟨hs, ht⟩]
theorem shown_f (k : Nat) (hk : 100 < k) : transeptlaw09_shown.f k = some true := by
  unfold transeptlaw09_shown.f
  rw [parts_f _ (by decide +kernel) (by decide +kernel) k (by show 11 + 11 + 4 < k; omega), method_f _ (by decide +kernel) k (by omega), method_f _ (by decide +kernel) k (by omega),
    name_ext _ (by decide +kernel), name_ext _ (by decide +kernel), tvalue_f _ (by decide +kernel), tvalue_f _ (by decide +kernel), trim_f _ (by decide +kernel), lower_ext _ (by decide +kernel), never_ext _ (by decide +kernel)]
  decide +kernel
end Go.Proofs.YtkdcgodpobhfhaaDoor.Fun
