/-
  THE PLAIN LAW of SafeTells: what the printed law computes is true. Condition: sizes of at most 140737488351232.
-/
import Derived.Test.YtikhboebmmmopaaGreatDoorPureZ
import Derived.Test.YtikhboebmmmopaaGreatDoorFunWTells
namespace Go.Proofs.YtikhboebmmmopaaGreatDoor.Pure
open Go.RowKit Go.Proofs.YtikhboebmmmopaaGreatDoorW.PrintWords
open Go.Proofs.YtikhboebmmmopaaGreatDoor.Ext (txt Big)
open Go.Proofs.YtikhboebmmmopaaGreatDoor.Fun
theorem SafeTells (a0 a1 : ByteArray) (h0 : a0.size ≤ 140737488351232) (h1 : a1.size ≤ 140737488351232) : ∃ k, transeptlaw12_SafeTells.f k a0 a1 = some true := by
  obtain ⟨k, hk⟩ : ∃ k : Nat, 9000000000000000 < k := ⟨_, Nat.lt_succ_self _⟩
  refine ⟨k, ?_⟩
  have s0 : a0.size ≤ 1152921504606846976 := Nat.le_trans h0 (by decide)
  have s1 : a1.size ≤ 1152921504606846976 := Nat.le_trans h1 (by decide)
  have t0 : a0.size ≤ 140737488351300 := Nat.le_trans h0 (by decide)
  have t1 : a1.size ≤ 140737488351300 := Nat.le_trans h1 (by decide)
  have sB : a0.size ≤ Big := by unfold Ext.Big; omega
  unfold transeptlaw12_SafeTells.f
  rw [show transeptlaw12_shown.f k = some true from rfl, PureS.safem_f a0 sB k (by omega), PureZ.rsafem_f a0 sB k (by omega), PureS.header_f a0 a1 s0 s1, PureZ.rheader_f a0 a1 t0 t1 k (by omega), PureS.never_f a0 s0 k (by omega), PureZ.rnever_f a0 t0 k (by omega), PureS.reads_f a0 s0 k (by omega), PureZ.rreads_f a0 t0 k (by omega), PureS.hidden_f a0 s0, PureZ.rhidden_f a0 t0 k (by omega)]
  simp only [Option.bind_some, beq_self_eq_true, if_true]
end Go.Proofs.YtikhboebmmmopaaGreatDoor.Pure
