/-
  THE PLAIN LAW of CorsChecks: what the printed law computes is true. Condition: sizes of at most 1048576.
-/
import Derived.Test.YtaabfmpoodjhjaaDoorPureK
namespace Go.Proofs.YtaabfmpoodjhjaaDoor.Pure
open Go.RowKit Go.Proofs.YtaabfmpoodjhjaaDoorW.PrintWords
open Go.Proofs.YtaabfmpoodjhjaaDoor.Ext (txt Big)
open Go.Proofs.YtaabfmpoodjhjaaDoor.Fun
theorem fits_of {l : List S40} (h : l.length ≤ 1048576 ∧ ∀ s ∈ l, s.f0.size ≤ 1048576 ∧ s.f1.size ≤ 1048576) : Fits l := ⟨h.1, fun f hf => by have := (h.2 f hf).1; omega, fun f hf => by have := (h.2 f hf).2; omega⟩
theorem CorsChecks (a0 : ByteArray) (a1 : Bool) (l2 : List S40) (a3 : ByteArray) (h0 : a0.size ≤ 1048576) (h2 : l2.length ≤ 1048576 ∧ ∀ s ∈ l2, s.f0.size ≤ 1048576 ∧ s.f1.size ≤ 1048576) (h3 : a3.size ≤ 1048576) : ∃ k, transeptlaw17_CorsChecks.f k a0 a1 l2 a3 = some true := by
  obtain ⟨k, hk⟩ : ∃ k : Nat, 9000000000000 < k := ⟨_, Nat.lt_succ_self _⟩
  refine ⟨k, ?_⟩
  have hT := Fits.take (fits_of h2) (min l2.length 50)
  have hlen : (l2.take (min l2.length 50)).length ≤ 50 := by rw [List.length_take]; omega
  have hl := (listP_le hT a3.data.toList).1
  have h3B : a3.size ≤ Big := by unfold Ext.Big; omega
  unfold transeptlaw17_CorsChecks.f
  rw [show transeptlaw17_shown.f k = some true from rfl, few_f l2 k (by omega)]
  simp only [Option.bind_some, if_true]
  rw [check_f hT _ _ k (by omega), rcheck_f hT _ _ k (by omega), age_f hT k (by omega), rage_f hT k (by omega), list_f hT _ h3B k (by omega), rlist_f hT _ h3B k (by omega), exposes_f hT _ h3B _ k (by omega), rexposes_f hT _ (by omega) _ k (by omega)]
  simp only [Option.bind_some]
  rw [samel_f _ (by rw [List.length_map]; omega) k (by rw [List.length_map]; omega)]
  simp
end Go.Proofs.YtaabfmpoodjhjaaDoor.Pure
