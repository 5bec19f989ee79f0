/-
  THE PLAIN LAW of CorsTwice: what the printed law computes is true. Condition: sizes of at most 1048576.
-/
import Derived.Test.YtaabfmpoodjhjaaDoorPureKxA
import Derived.Test.YtaabfmpoodjhjaaDoorFunWTwicexA
namespace Go.Proofs.YtaabfmpoodjhjaaDoor.Pure
open Go.RowKit Go.Proofs.YtaabfmpoodjhjaaDoorW.PrintWords
open Go.Proofs.YtaabfmpoodjhjaaDoor.Ext (txt Big)
open Go.Proofs.YtaabfmpoodjhjaaDoor.Fun
theorem fits_twice {l : List S40} (h : l.length ≤ 1048576 ∧ ∀ s ∈ l, s.f0.size ≤ 1048576 ∧ s.f1.size ≤ 1048576) : Fits l := ⟨h.1, fun f hf => by have := (h.2 f hf).1; omega, fun f hf => by have := (h.2 f hf).2; omega⟩
theorem fits_snoc {l : List S40} (h : Fits l) (hl : l.length < 1048576) (f : S40) (h0 : f.f0.size ≤ 1048600) (h1 : f.f1.size ≤ 1048577) : Fits (l ++ [f]) :=
  ⟨by rw [List.length_append]; simp only [List.length_cons, List.length_nil]; omega, fun g hg => by rcases List.mem_append.1 hg with hg | hg; exact h.name g hg; rw [List.mem_singleton.1 hg]; exact h0,
   fun g hg => by rcases List.mem_append.1 hg with hg | hg; exact h.value g hg; rw [List.mem_singleton.1 hg]; exact h1⟩
theorem sel_snoc (l : List S40) (f : S40) (n : List UInt8) : sel (l ++ [f]) n = sel l n ++ (if Plain.foldB f.f0.data.toList n = true then [f.f1] else []) := by
  unfold sel
  rw [List.filter_append, List.map_append]
  congr 1
  by_cases h : Plain.foldB f.f0.data.toList n = true
  · simp [h]
  · simp [h]
theorem check_two {l : List S40} {o : List UInt8} {cred : Bool} (h : checkP l o cred = true) (f : S40) (hf : Plain.foldB f.f0.data.toList nOrigin = true) : checkP (l ++ [f]) o cred = false := by
  have h1 : (onlyP l nOrigin).2 = true := by
    unfold checkP checkB at h
    cases cred with
    | true => rw [if_pos rfl, Bool.and_eq_true] at h; exact h.1
    | false => rw [if_neg (by decide), Bool.and_eq_true] at h; exact h.1
  have h2 : (onlyP (l ++ [f]) nOrigin).2 = false := by
    unfold onlyP at h1 ⊢
    rw [sel_snoc, if_pos hf]
    match hs : sel l nOrigin with
    | [] => rw [hs] at h1; cases h1
    | [v] => rfl
    | v :: x :: r => rw [hs] at h1; cases h1
  unfold checkP checkB
  rw [h2]
  cases cred <;> rfl
theorem check_same {l : List S40} {o : List UInt8} {cred : Bool} (f : S40) (hf : Plain.foldB f.f0.data.toList nOrigin = false) (hg : Plain.foldB f.f0.data.toList nCred = false) : checkP (l ++ [f]) o cred = checkP l o cred := by
  have e : ∀ n, Plain.foldB f.f0.data.toList n = false → onlyP (l ++ [f]) n = onlyP l n := by
    intro n hn
    unfold onlyP
    rw [sel_snoc, hn, if_neg (by decide), List.append_nil]
  unfold checkP
  rw [e _ hf, e _ hg]
theorem x_fold (s n : List UInt8) (hn : (Plain.lower n).head? = some 97) : Plain.foldB (120 :: 45 :: s) n = false := by
  unfold Plain.foldB
  rw [beq_eq_false_iff_ne]
  intro h
  rw [← h] at hn
  revert hn
  simp only [Plain.lower, List.map_cons, List.head?_cons]
  decide
theorem CorsTwice (a0 : ByteArray) (a1 : Bool) (l2 : List S40) (a3 a4 : ByteArray) (h0 : a0.size ≤ 1048576) (h2 : l2.length ≤ 1048576 ∧ ∀ s ∈ l2, s.f0.size ≤ 1048576 ∧ s.f1.size ≤ 1048576) (h3 : a3.size ≤ 1048576) (h4 : a4.size ≤ 1048576) : ∃ k, transeptlaw17_CorsTwice.f k a0 a1 l2 a3 a4 = some true := by
  obtain ⟨k, hk⟩ : ∃ k : Nat, 9000000000000 < k := ⟨_, Nat.lt_succ_self _⟩
  refine ⟨k, ?_⟩
  have hT := Fits.take (fits_twice h2) (min l2.length 50)
  have hlen : (l2.take (min l2.length 50)).length ≤ 50 := by rw [List.length_take]; omega
  unfold transeptlaw17_CorsTwice.f
  rw [show transeptlaw17_shown.f k = some true from rfl, few_f l2 k (by omega)]
  simp only [Option.bind_some]
  generalize l2.take (min l2.length 50) = l at hT hlen ⊢
  rw [check_f hT a0 a1 k (by omega)]
  simp only [Option.bind_some]
  cases hp : checkP l a0.data.toList a1 with
  | false => rfl
  | true =>
    have ha : transeptlaw17_allow.f (⟨#[97, 108, 108, 111, 119, 45, 79, 114, 105, 103, 105, 110]⟩ : ByteArray) a3 = some ((⟨#[65, 99, 99, 101, 115, 115, 45, 67, 111, 110, 116, 114, 111, 108, 45, 97, 108, 108, 111, 119, 45, 79, 114, 105, 103, 105, 110]⟩ : ByteArray), a3) := by
      unfold transeptlaw17_allow.f
      rw [if_pos (by decide +kernel)]
      rfl
    obtain ⟨M, hM⟩ : ∃ M, M = (⟨(⟨#[65, 99, 99, 101, 115, 115, 45, 67, 111, 110, 116, 114, 111, 108, 45, 97, 108, 108, 111, 119, 45, 79, 114, 105, 103, 105, 110]⟩ : ByteArray), a3⟩ : S40) := ⟨_, rfl⟩
    obtain ⟨X, hX⟩ : ∃ X, X = (⟨(⟨#[120, 45]⟩ : ByteArray) ++ a4, a3⟩ : S40) := ⟨_, rfl⟩
    have xs : X.f0.size = 2 + a4.size := by rw [hX]; exact ByteArray.size_append
    have xd : X.f0.data.toList = 120 :: 45 :: a4.data.toList := by rw [hX]; simp [ByteArray.data_append]
    have F1 := fits_snoc hT (by omega) M (by rw [hM]; show (27 : Nat) ≤ _; omega) (by rw [hM]; show a3.size ≤ _; omega)
    have F2 := fits_snoc hT (by omega) X (by rw [xs]; omega) (by rw [hX]; show a3.size ≤ _; omega)
    have e1 : checkP (l ++ [M]) a0.data.toList a1 = false := check_two hp M (by rw [hM]; show Plain.foldB (⟨#[65, 99, 99, 101, 115, 115, 45, 67, 111, 110, 116, 114, 111, 108, 45, 97, 108, 108, 111, 119, 45, 79, 114, 105, 103, 105, 110]⟩ : ByteArray).data.toList nOrigin = true; decide +kernel)
    have e2 : checkP (l ++ [X]) a0.data.toList a1 = true := by
      rw [check_same X (by rw [xd]; exact x_fold _ _ (by decide +kernel)) (by rw [xd]; exact x_fold _ _ (by decide +kernel)), hp]
    rw [if_pos rfl, ha]
    simp only [Option.bind_some, List.length_nil, List.nil_append]
    rw [← hM, ← hX, check_f F1 a0 a1 k (by have := F1.len; omega), check_f F2 a0 a1 k (by have := F2.len; omega), e1, e2, if_pos (by omega), if_pos (by omega), if_pos (by omega), if_pos (by omega), if_pos (by omega), if_pos trivial]
    rfl
end Go.Proofs.YtaabfmpoodjhjaaDoor.Pure
