/-
  THE PLAIN LAW of CorsPreflights: what the printed law computes is true. Condition: sizes of at most 1048576.
-/
import Derived.Test.YtaabfmpoodjhjaaDoorPureK2xA
import Derived.Test.YtaabfmpoodjhjaaDoorFunCxA
namespace Go.Proofs.YtaabfmpoodjhjaaDoor.Pure
open Go.RowKit Go.Proofs.YtaabfmpoodjhjaaDoorW.PrintWords
open Go.Proofs.YtaabfmpoodjhjaaDoor.Ext (txt Big)
open Go.Proofs.YtaabfmpoodjhjaaDoor.Fun
theorem fits_pre {l : List S40} (h : l.length ≤ 1048576 ∧ ∀ s ∈ l, s.f0.size ≤ 1048576 ∧ s.f1.size ≤ 1048576) : Fits l := ⟨h.1, fun f hf => by have := (h.2 f hf).1; omega, fun f hf => by have := (h.2 f hf).2; omega⟩
theorem CorsPreflights (a0 : ByteArray) (a1 : Bool) (a2 : ByteArray) (l3 : List ByteArray) (a4 : Int) (l5 : List S40) (h0 : a0.size ≤ 1048576) (h2 : a2.size ≤ 1048576) (h3 : l3.length ≤ 1048576 ∧ ∀ s ∈ l3, s.size ≤ 1048576)
    (h4 : (Lit.int .i64 a4).wf = true) (h5 : l5.length ≤ 1048576 ∧ ∀ s ∈ l5, s.f0.size ≤ 1048576 ∧ s.f1.size ≤ 1048576) : ∃ k, transeptlaw17_CorsPreflights.f k a0 a1 a2 l3 a4 l5 = some true := by
  obtain ⟨k, hk⟩ : ∃ k : Nat, 9000000000000 < k := ⟨_, Nat.lt_succ_self _⟩
  refine ⟨k, ?_⟩
  have hT := Fits.take (fits_pre h5) (min l5.length 50)
  have hlen : (l3.take (min l3.length 50)).length ≤ 50 := by rw [List.length_take]; omega
  have hu : ∀ s ∈ l3.take (min l3.length 50), s.size ≤ 1048576 := fun s hs => h3.2 s (List.mem_of_mem_take hs)
  unfold transeptlaw17_CorsPreflights.f
  rw [show transeptlaw17_shown.f k = some true from rfl, few_f l5 k (by omega)]
  simp only [Option.bind_some, if_true, List.length_nil, List.nil_append]
  rw [mn_50, if_pos (by omega), if_pos (by omega), Int.toNat_natCast, if_pos (by omega)]
  rw [preflight_f hT _ _ _ (by unfold Ext.Big; omega) _ (fun s hs => by have := hu s hs; unfold Ext.Big; omega) _ k (by omega), rpreflight_f hT _ _ _ (by omega) _ (by omega) (fun s hs => by have := hu s hs; omega) _ k (by omega)]
  simp
end Go.Proofs.YtaabfmpoodjhjaaDoor.Pure
