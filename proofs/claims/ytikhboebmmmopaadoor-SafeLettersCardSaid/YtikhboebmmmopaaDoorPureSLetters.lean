/-
  THE PLAIN LAW of SafeLetters: what the printed law computes is true. Condition: sizes of at most 140737488351232.
-/
import Derived.Test.YtikhboebmmmopaaDoorPureS
import Derived.Test.YtikhboebmmmopaaDoorFunWLetters
namespace Go.Proofs.YtikhboebmmmopaaDoor.Pure
open Go.RowKit Go.Proofs.YtikhboebmmmopaaDoorW.PrintWords
open Go.Proofs.YtikhboebmmmopaaDoor.Ext (txt Big)
open Go.Proofs.YtikhboebmmmopaaDoor.Fun Go.Proofs.YtikhboebmmmopaaDoor.PureS
theorem SafeLetters (a0 a1 : ByteArray) (h0 : a0.size ≤ 140737488351232) (h1 : a1.size ≤ 140737488351232) : ∃ k, transeptlaw12_SafeLetters.f k a0 a1 = some true := by
  obtain ⟨k, hk⟩ : ∃ k : Nat, 100 < k := ⟨_, Nat.lt_succ_self _⟩
  refine ⟨k, ?_⟩
  have s0 : a0.size ≤ 1152921504606846976 := by omega
  have s1 : a1.size ≤ 1152921504606846976 := by omega
  have sB : a0.size ≤ Big := by unfold Ext.Big; omega
  have z : (txt (Plain.lower a0.data.toList)).size = a0.size := by rw [Ext.txt_size, Plain.lower_length, len_eq]
  have t0 : (txt (Plain.lower a0.data.toList)).size ≤ 1152921504606846976 := by omega
  have tB : (txt (Plain.lower a0.data.toList)).size ≤ Big := by unfold Ext.Big; omega
  unfold transeptlaw12_SafeLetters.f
  rw [show transeptlaw12_shown.f k = some true from rfl, lower_f a0 s0]
  simp only [Option.bind_some, if_true]
  rw [safem_f a0 sB k (by omega), safem_f _ tB k (by omega), Ext.txt_data, safeP_lower, header_f a0 a1 s0 s1, header_f _ a1 t0 s1, Ext.txt_data, Plain.hdr_lower, never_f a0 s0 k (by omega), never_f _ t0 k (by omega), Ext.txt_data, Plain.neverP_lower, reads_f a0 s0 k (by omega), reads_f _ t0 k (by omega), Ext.txt_data, Plain.readsP_lower, hidden_f a0 s0, hidden_f _ t0, Ext.txt_data, Plain.hiddenP_lower]
  simp only [Option.bind_some, beq_self_eq_true, if_true]
  cases h : Plain.hdr a0.data.toList a1.data.toList
  · rfl
  · rw [Plain.hdr_never h]
    rfl
end Go.Proofs.YtikhboebmmmopaaDoor.Pure
