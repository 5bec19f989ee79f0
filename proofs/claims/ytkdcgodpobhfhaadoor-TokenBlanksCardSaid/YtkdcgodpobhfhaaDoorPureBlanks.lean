/-
  THE PLAIN LAW of TokenBlanks: what the printed law computes is true. Condition: a text of at most 140737488351232 bytes.
-/
import Derived.Test.YtkdcgodpobhfhaaDoorPureC
import Derived.Test.YtkdcgodpobhfhaaDoorFun6
namespace Go.Proofs.YtkdcgodpobhfhaaDoor.Pure
open Go.RowKit Go.Proofs.YtkdcgodpobhfhaaDoorW.PrintWords
open Go.Proofs.YtkdcgodpobhfhaaDoor.Ext (txt Big)
open Go.Proofs.YtkdcgodpobhfhaaDoor.Fun

theorem and7 (a : Int) : ∃ m : Nat, m ≤ 7 ∧ Go.bits .and .i64 a 7 = (m : Int) := by
  have h : (BitVec.ofInt 64 a &&& BitVec.ofInt 64 7).toNat ≤ 7 := by
    rw [BitVec.toNat_and]
    exact Nat.and_le_right
  refine ⟨_, h, ?_⟩
  show IntKind.wrap .i64 ((BitVec.ofInt 64 a &&& BitVec.ofInt 64 7).toNat : Int) = _
  generalize (BitVec.ofInt 64 a &&& BitVec.ofInt 64 7).toNat = n at h
  show (let m := (n : Int) % 2 ^ 64; if (true && decide (m ≥ 2 ^ (64 - 1))) = true then m - 2 ^ 64 else m) = _
  have e : (n : Int) % 2 ^ 64 = n := by omega
  simp only [e]
  rw [if_neg]
  simp
  omega
theorem txt_append (a b : List UInt8) : txt a ++ txt b = txt (a ++ b) := by
  apply Ext.data_inj
  simp [Ext.txt_data]
def bl : List UInt8 := [9, 10, 13, 32, 9, 10, 13, 32]
theorem bl_blank : ∀ c ∈ bl, Plain.isBlank c = true := by decide

theorem blanks_end (s : ByteArray) (m n : Nat) (hm : m ≤ 7) (hs : s.size ≤ 140737488351232) :
    ((token_Trim.f (txt (bl.take m ++ s.data.toList ++ bl.drop n))).bind fun t234 => (if t234.toList = (txt (Plain.trimB s.data.toList)).toList then ((token_Value.f (txt (Plain.trimB s.data.toList))).bind fun t235 =>
      (if (t235 == (!((Plain.trimB s.data.toList).any Plain.isBad))) = true then (if (m : Int) = 0 then (some true) else ((token_Value.f (txt (bl.take m ++ s.data.toList ++ bl.drop n))).bind fun t236 => (some (!t236)))) else (some false))) else (some false))) = some true := by
  have hsz : (txt (bl.take m ++ s.data.toList ++ bl.drop n)).size ≤ Big := by
    rw [Ext.txt_size, List.length_append, List.length_append, List.length_take, List.length_drop, len_eq]
    show _ ≤ 9223372036854775807
    have : bl.length = 8 := rfl
    omega
  have hsz2 : (txt (Plain.trimB s.data.toList)).size ≤ Big := by
    rw [Ext.txt_size]
    have := Plain.trimP_length Plain.isBlank s.data.toList
    rw [len_eq] at this
    show _ ≤ 9223372036854775807
    unfold Plain.trimB
    omega
  have ht : Plain.trimB (bl.take m ++ s.data.toList ++ bl.drop n) = Plain.trimB s.data.toList := by
    unfold Plain.trimB
    rw [Plain.trimP_right _ _ (fun c hc => bl_blank c (List.mem_of_mem_drop hc)), Plain.trimP_left _ _ (fun c hc => bl_blank c (List.mem_of_mem_take hc))]
  have hv : Plain.valueB (Plain.trimB s.data.toList) = !((Plain.trimB s.data.toList).any Plain.isBad) := by
    unfold Plain.valueB
    rw [show Plain.trimB (Plain.trimB s.data.toList) = Plain.trimB s.data.toList from Plain.trimP_trimP _ _, beq_self_eq_true, Bool.true_and]
  rw [trim_f _ hsz, tvalue_f _ hsz2, tvalue_f _ hsz]
  simp only [Option.bind_some, Ext.txt_data, txt_list, ht, hv, if_true, beq_self_eq_true]
  by_cases h0 : (m : Int) = 0
  · rw [if_pos h0]
  · rw [if_neg h0]
    have hne : Plain.trimB (bl.take m ++ s.data.toList ++ bl.drop n) ≠ bl.take m ++ s.data.toList ++ bl.drop n := by
      obtain ⟨m', rfl⟩ : ∃ m', m = m' + 1 := ⟨m - 1, by omega⟩
      show Plain.trimP Plain.isBlank (9 :: (_ ++ _ ++ _)) ≠ 9 :: (_ ++ _ ++ _)
      exact Plain.trimP_ne rfl
    unfold Plain.valueB
    rw [beq_eq_false_iff_ne.2 hne]
    rfl

theorem blanks_l0 (s : ByteArray) (m n : Nat) (hm : m ≤ 7) (hs : s.size ≤ 140737488351232) (d : Nat) : ∀ (k i : Nat), (Plain.trimB s.data.toList).length - i = d → i ≤ (Plain.trimB s.data.toList).length → d < k →
    transeptlaw09_TokenBlanks.l0 k (m : Int) true (txt (bl.take m ++ s.data.toList ++ bl.drop n)) (((Plain.trimB s.data.toList).take i).any Plain.isBad) (txt (Plain.trimB s.data.toList)) (i : Int) = some true := by
  have hlen : (Plain.trimB s.data.toList).length ≤ s.size := by
    have := Plain.trimP_length Plain.isBlank s.data.toList
    rw [len_eq] at this
    exact this
  induction d with
  | zero =>
    intro k i hd hi hk
    obtain ⟨k, rfl⟩ : ∃ m, k = m + 1 := ⟨k - 1, by omega⟩
    simp only [transeptlaw09_TokenBlanks.l0]
    rw [Ext.txt_size, if_neg (by omega), if_pos trivial, List.take_of_length_le (l := Plain.trimB s.data.toList) (i := i) (by omega)]
    exact blanks_end s m n hm hs
  | succ d ih =>
    intro k i hd hi hk
    obtain ⟨k, rfl⟩ : ∃ m, k = m + 1 := ⟨k - 1, by omega⟩
    have hl : i < (Plain.trimB s.data.toList).length := by omega
    have hb := bt_nat (txt (Plain.trimB s.data.toList)) i (by rw [Ext.txt_data]; exact hl)
    have next := ih k (i + 1) (by omega) (by omega) (by omega)
    rw [List.take_succ_eq_append_getElem hl, List.any_append] at next
    have e1 : [(Plain.trimB s.data.toList)[i]].any Plain.isBad = Plain.isBad (Plain.trimB s.data.toList)[i] := by simp
    rw [e1, bad_byte] at next
    simp only [transeptlaw09_TokenBlanks.l0]
    rw [Ext.txt_size, if_pos (by omega), wrap_in (by omega) (by omega), show ((i : Int) + 1) = ((i + 1 : Nat) : Int) from by omega, hb]
    have hbb : (txt (Plain.trimB s.data.toList)).data.toList[i]'(by rw [Ext.txt_data]; exact hl) = (Plain.trimB s.data.toList)[i] := rfl
    rw [hbb]
    cases h : ((Plain.trimB s.data.toList).take i).any Plain.isBad with
    | true =>
      rw [h, Bool.true_or] at next
      rw [if_pos rfl]
      exact next
    | false =>
      rw [h, Bool.false_or] at next
      rw [if_neg (by decide), if_pos (by omega)]
      by_cases h0 : ((Plain.trimB s.data.toList)[i].toNat : Int) = 0
      · rw [if_pos h0]
        rw [decide_eq_true h0, Bool.true_or, Bool.true_or] at next
        exact next
      · rw [if_neg h0]
        rw [decide_eq_false h0, Bool.false_or] at next
        by_cases h10 : ((Plain.trimB s.data.toList)[i].toNat : Int) = 10
        · rw [if_pos h10]
          rw [decide_eq_true h10, Bool.true_or] at next
          exact next
        · rw [if_neg h10]
          rw [decide_eq_false h10, Bool.false_or] at next
          exact next

theorem TokenBlanks (s : ByteArray) (a b : Int) (hs : s.size ≤ 140737488351232) (_ha : (Lit.int .i64 a).wf = true) (_hb : (Lit.int .i64 b).wf = true) : ∃ k, transeptlaw09_TokenBlanks.f k s a b = some true := by
  obtain ⟨m, hm, ea⟩ := and7 a
  obtain ⟨n, hn, eb⟩ := and7 b
  have hsB : s.size ≤ Big := by show _ ≤ 9223372036854775807; omega
  have h8 : bl.length = 8 := rfl
  have e1 : (⟨#[9, 10, 13, 32, 9, 10, 13, 32]⟩ : ByteArray).extract 0 m = txt (bl.take m) := by
    rw [extract_list]
    rfl
  have e2 : (⟨#[9, 10, 13, 32, 9, 10, 13, 32]⟩ : ByteArray).extract n 8 = txt (bl.drop n) := by
    rw [extract_list]
    show txt ((bl.drop n).take (8 - n)) = _
    rw [List.take_of_length_le (by rw [List.length_drop]; omega)]
  obtain ⟨K, hK⟩ : ∃ K : Nat, 1000000000000000 ≤ K := ⟨_, Nat.le_refl _⟩
  refine ⟨K, ?_⟩
  have hlen : (Plain.trimB s.data.toList).length ≤ s.size := by
    have := Plain.trimP_length Plain.isBlank s.data.toList
    rw [len_eq] at this
    exact this
  unfold transeptlaw09_TokenBlanks.f
  rw [shown_f _ (by omega), trim_f s hsB, ea, eb]
  simp only [Option.bind_some, Int.toNat_natCast]
  rw [e1, e2, show s = txt s.data.toList from rfl, txt_append, txt_append, Ext.txt_size, Ext.txt_size, Ext.txt_size, Ext.txt_size, List.length_append, List.length_take, List.length_drop]
  have hsl : s.data.toList.length = s.size := len_eq s
  rw [Ext.txt_data]
  rw [if_pos (by omega), if_pos (by omega), if_pos (by omega), if_pos (by omega), if_pos (by omega), if_pos (by omega)]
  exact blanks_l0 s m n hm hs _ K 0 rfl (Nat.zero_le _) (by omega)
end Go.Proofs.YtkdcgodpobhfhaaDoor.Pure
