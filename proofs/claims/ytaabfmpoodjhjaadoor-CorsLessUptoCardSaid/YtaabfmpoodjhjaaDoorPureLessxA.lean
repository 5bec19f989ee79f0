/-
  THE PLAIN LAW of CorsLess: what the printed law computes is true. Condition: sizes of at most 1048576.
-/
import Derived.Test.YtaabfmpoodjhjaaDoorPureK2xA
import Derived.Test.YtaabfmpoodjhjaaDoorFunWLessxA
namespace Go.Proofs.YtaabfmpoodjhjaaDoor.Pure
open Go.RowKit Go.Proofs.YtaabfmpoodjhjaaDoorW.PrintWords
open Go.Proofs.YtaabfmpoodjhjaaDoor.Ext (txt Big)
open Go.Proofs.YtaabfmpoodjhjaaDoor.Fun
theorem fits_less {l : List S40} (h : l.length ≤ 1048576 ∧ ∀ s ∈ l, s.f0.size ≤ 1048576 ∧ s.f1.size ≤ 1048576) : Fits l := ⟨h.1, fun f hf => by have := (h.2 f hf).1; omega, fun f hf => by have := (h.2 f hf).2; omega⟩
theorem check_less {l : List S40} {o : List UInt8} {cred : Bool} (h : checkP l o cred = true) : checkP l o false = true := by
  unfold checkP checkB at h ⊢
  cases cred with
  | false => exact h
  | true =>
    rw [if_pos rfl] at h
    rw [if_neg (by decide)]
    simp only [Bool.and_eq_true] at h ⊢
    exact ⟨h.1, by rw [h.2.1, Bool.or_true]⟩
theorem all_less {ns : List (List UInt8)} {cred : Bool} (h : allP ns cred = true) : allP ns false = true := by
  cases cred with
  | false => exact h
  | true => cases h
theorem header_less {ns : List (List UInt8)} {cred : Bool} {s : List UInt8} (h : headerP ns cred s = true) : headerP ns false s = true := by
  unfold headerP at h ⊢
  simp only [Bool.or_eq_true, Bool.and_eq_true] at h ⊢
  rcases h with h | ⟨h1, h2⟩
  · exact .inl h
  · exact .inr ⟨all_less h1, h2⟩
theorem less {o m : List UInt8} {cred : Bool} {us : List ByteArray} {st : Int} {l : List S40} (h : preflightP o cred m us st l = true) (n : Nat) :
    preflightP o false m us 200 l = true ∧ preflightP o cred [71, 69, 84] us st l = true ∧ preflightP o cred m (us.take n) st l = true ∧ preflightP o cred m us 299 l = true ∧ preflightP o cred m us 300 l = false ∧ checkP l o cred = true := by
  unfold preflightP at h ⊢
  simp only [Bool.and_eq_true, decide_eq_true_eq] at h
  obtain ⟨⟨⟨⟨h1, h2⟩, h3⟩, h4⟩, h5⟩ := h
  have hg : safeP [71, 69, 84] = true := by decide +kernel
  refine ⟨?_, ?_, ?_, ?_, ?_, h3⟩
  · simp only [Bool.and_eq_true, decide_eq_true_eq]
    refine ⟨⟨⟨⟨by omega, by omega⟩, check_less h3⟩, ?_⟩, ?_⟩
    · simp only [Bool.or_eq_true] at h4 ⊢
      rcases h4 with h4 | h4
      · exact .inl h4
      · exact .inr (all_less h4)
    · rw [List.all_eq_true] at h5 ⊢
      exact fun s hs => header_less (h5 s hs)
  · rw [hg]
    simp only [Bool.and_eq_true, decide_eq_true_eq, Bool.true_or, and_true]
    exact ⟨⟨⟨h1, h2⟩, h3⟩, h5⟩
  · simp only [Bool.and_eq_true, decide_eq_true_eq]
    refine ⟨⟨⟨⟨h1, h2⟩, h3⟩, h4⟩, ?_⟩
    rw [List.all_eq_true] at h5 ⊢
    exact fun s hs => h5 s (List.mem_of_mem_take hs)
  · simp only [Bool.and_eq_true, decide_eq_true_eq]
    exact ⟨⟨⟨⟨by omega, by omega⟩, h3⟩, h4⟩, h5⟩
  · rw [show decide ((300 : Int) ≤ 299) = false from by decide]
    simp
theorem CorsLess (a0 : ByteArray) (a1 : Bool) (a2 : ByteArray) (l3 : List ByteArray) (a4 : Int) (l5 : List S40) (h0 : a0.size ≤ 1048576) (h2 : a2.size ≤ 1048576) (h3 : l3.length ≤ 1048576 ∧ ∀ s ∈ l3, s.size ≤ 1048576)
    (h4 : (Lit.int .i64 a4).wf = true) (h5 : l5.length ≤ 1048576 ∧ ∀ s ∈ l5, s.f0.size ≤ 1048576 ∧ s.f1.size ≤ 1048576) : ∃ k, transeptlaw17_CorsLess.f k a0 a1 a2 l3 a4 l5 = some true := by
  obtain ⟨k, hk⟩ : ∃ k : Nat, 9000000000000 < k := ⟨_, Nat.lt_succ_self _⟩
  refine ⟨k, ?_⟩
  have hT := Fits.take (fits_less h5) (min l5.length 50)
  have hlen : (l3.take (min l3.length 50)).length ≤ 50 := by rw [List.length_take]; omega
  have hu : ∀ s ∈ l3.take (min l3.length 50), s.size ≤ Big := fun s hs => by have := h3.2 s (List.mem_of_mem_take hs); unfold Ext.Big; omega
  have h2B : a2.size ≤ Big := by unfold Ext.Big; omega
  unfold transeptlaw17_CorsLess.f
  rw [show transeptlaw17_shown.f k = some true from rfl, few_f l5 k (by omega)]
  simp only [Option.bind_some, if_true, List.length_nil, List.nil_append]
  rw [mn_50, if_pos (by omega), if_pos (by omega), Int.toNat_natCast, if_pos (by omega)]
  generalize l3.take (min l3.length 50) = us at hlen hu ⊢
  generalize l5.take (min l5.length 50) = l at hT ⊢
  have P : ∀ (cred : Bool) (m : ByteArray) (hm : m.size ≤ Big) (vs : List ByteArray) (hv : ∀ s ∈ vs, s.size ≤ Big) (st : Int), cors_Preflight.f k a0 cred m vs st l = some (preflightP a0.data.toList cred m.data.toList vs st l) := fun cred m hm vs hv st => preflight_f hT a0 cred m hm vs hv st k (by omega)
  rw [P a1 a2 h2B us hu a4]
  simp only [Option.bind_some]
  cases hp : preflightP a0.data.toList a1 a2.data.toList us a4 l with
  | false => simp only [Bool.false_eq_true, if_false]
  | true =>
    obtain ⟨e1, e2, e3, e4, e5, e6⟩ := less hp (us.length / 2)
    have q1 : cors_Preflight.f k a0 false a2 us 200 l = some true := (P false a2 h2B us hu 200).trans (congrArg some e1)
    have q2 : cors_Preflight.f k a0 a1 ⟨#[71, 69, 84]⟩ us a4 l = some true := (P a1 ⟨#[71, 69, 84]⟩ (by decide +kernel) us hu a4).trans (congrArg some e2)
    have q3 : cors_Preflight.f k a0 a1 a2 (us.take (us.length / 2)) a4 l = some true := (P a1 a2 h2B (us.take (us.length / 2)) (fun s hs => hu s (List.mem_of_mem_take hs)) a4).trans (congrArg some e3)
    have q4 : cors_Preflight.f k a0 a1 a2 us 299 l = some true := (P a1 a2 h2B us hu 299).trans (congrArg some e4)
    have q5 : cors_Preflight.f k a0 a1 a2 us 300 l = some false := (P a1 a2 h2B us hu 300).trans (congrArg some e5)
    have q6 : cors_Check.f k a0 a1 l = some true := (check_f hT a0 a1 k (by have := hT.len; omega)).trans (congrArg some e6)
    have w1 : wrap64 ((us.length : Int) / 2) = ((us.length / 2 : Nat) : Int) := by rw [wrap_in (by omega) (by omega)]; omega
    have w2 : (0 : Int) ≤ ((us.length / 2 : Nat) : Int) := by omega
    have w3 : ((us.length / 2 : Nat) : Int) ≤ (us.length : Int) := by omega
    have w4 : (((us.length / 2 : Nat) : Int)).toNat = us.length / 2 := by omega
    simp only [q1, q2, w1, if_pos w2, if_pos w3, w4, q3, q4, q5, q6, Option.bind_some, if_true, Bool.false_eq_true, if_false]
end Go.Proofs.YtaabfmpoodjhjaaDoor.Pure
