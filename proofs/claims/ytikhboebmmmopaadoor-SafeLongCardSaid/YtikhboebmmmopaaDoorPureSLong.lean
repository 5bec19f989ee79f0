/-
  THE PLAIN LAW of SafeLong: what the printed law computes is true. Condition: sizes of at most 140737488351232.
-/
import Derived.Test.YtikhboebmmmopaaDoorPureS
import Derived.Test.YtikhboebmmmopaaDoorFunWLong
import Derived.Laws.BitsLemmas
namespace Go.Proofs.YtikhboebmmmopaaDoor.Pure
open Go.RowKit Go.Proofs.YtikhboebmmmopaaDoorW.PrintWords Go.Proofs.YtikhboebmmmopaaDoorW.PrintMore
open Go.Proofs.YtikhboebmmmopaaDoor.Ext (txt Big)
open Go.Proofs.YtikhboebmmmopaaDoor.Fun Go.Proofs.YtikhboebmmmopaaDoor.PureS
theorem long_and (n : Int) : ∃ m : Nat, m < 16 ∧ Go.bits .and .i64 n 15 = (m : Int) := by
  have h48 : (BitVec.ofInt 64 15).toNat = 2 ^ 4 - 1 := by decide
  have key : (BitVec.ofInt 64 n &&& BitVec.ofInt 64 15).toNat = (n % ((2 ^ 64 : Nat) : Int)).toNat % 2 ^ 4 := by
    rw [BitVec.toNat_and, BitVec.toNat_ofInt, h48, Nat.and_two_pow_sub_one_eq_mod]
  refine ⟨(n % ((2 ^ 64 : Nat) : Int)).toNat % 2 ^ 4, Nat.mod_lt _ (by decide), ?_⟩
  show IntKind.i64.wrap ((BitVec.ofInt 64 n &&& BitVec.ofInt 64 15).toNat : Nat) = _
  rw [key, IntKind.wrap_i64]
  have : (n % ((2 ^ 64 : Nat) : Int)).toNat % 2 ^ 4 < 2 ^ 4 := Nat.mod_lt _ (by decide)
  omega
def aN (n : Nat) : List UInt8 := List.replicate n 97
theorem aN_snoc (n : Nat) : txt (aN n) ++ (⟨#[97]⟩ : ByteArray) = txt (aN (n + 1)) := by
  have h : aN (n + 1) = aN n ++ [97] := by
    unfold aN
    rw [List.replicate_succ']
  rw [h, show (⟨#[97]⟩ : ByteArray) = txt [97] from rfl]
  apply Ext.data_inj
  simp [Ext.txt_data]
theorem aN_size (n : Nat) : (txt (aN n)).size = n := by rw [Ext.txt_size]; exact List.length_replicate ..
theorem aN_odd (n : Nat) : (aN n).any Plain.oddB = false := by
  rw [List.any_eq_false]
  intro c hc
  rw [List.eq_of_mem_replicate hc]
  decide
def fA : S30 := ⟨(⟨#[65, 99, 99, 101, 112, 116]⟩ : ByteArray), txt (aN 128)⟩
def fB : S30 := ⟨(⟨#[97, 99, 99, 101, 112, 116]⟩ : ByteArray), (⟨#[98]⟩ : ByteArray)⟩
theorem fA_hd : hd fA = true := by
  show Plain.hdr (⟨#[65, 99, 99, 101, 112, 116]⟩ : ByteArray).data.toList (aN 128) = true
  rw [Plain.hdr_accept (by decide +kernel), aN_odd, show (aN 128).length = 128 from List.length_replicate ..]
  rfl
theorem fB_hd : hd fB = true := by
  show Plain.hdr (⟨#[97, 99, 99, 101, 112, 116]⟩ : ByteArray).data.toList [98] = true
  rw [Plain.hdr_accept (by decide +kernel)]
  decide
theorem fA_ln : ln fA = 128 := aN_size 128
theorem fB_ln : ln fB = 1 := rfl
theorem good_rep (n : Nat) : Plain.good hd ln (List.replicate n fA) = 128 * n := by
  induction n with
  | zero => rfl
  | succ n ih =>
    rw [List.replicate_succ, Plain.good_cons, if_pos fA_hd, fA_ln, ih]
    omega
theorem rep_hd (n : Nat) (f : S30) (h : f ∈ List.replicate n fA) : hd f = true := by
  rw [List.eq_of_mem_replicate h]
  exact fA_hd
theorem uns_rep (n : Nat) : (unsP (List.replicate n fA) = []) ↔ n ≤ 8 := by
  unfold unsP
  by_cases h0 : n = 0
  · subst h0
    constructor
    · intro _; omega
    · intro _; exact Plain.uns_nil hd ln field_Names.key
  · have hne : List.replicate n fA ≠ [] := by
      intro e
      have := congrArg List.length e
      rw [List.length_replicate] at this
      exact h0 this
    rw [Plain.uns_all hd ln field_Names.key (rep_hd n) hne, good_rep]
    omega
theorem uns_rep2 (n : Nat) : (unsP (List.replicate n fA ++ [fB]) = []) ↔ n < 8 := by
  unfold unsP
  rw [Plain.uns_all hd ln field_Names.key (fun f hf => by
    rcases List.mem_append.1 hf with hf | hf
    · exact rep_hd n f hf
    · rw [List.mem_singleton.1 hf]; exact fB_hd) (by simp), Plain.good_append, good_rep, Plain.good_one, if_pos fB_hd, fB_ln]
  omega
theorem rep_fits (n : Nat) (hn : n ≤ 20) : Fits (List.replicate n fA) := ⟨by rw [List.length_replicate]; omega, fun f hf => by rw [List.eq_of_mem_replicate hf]; show (6 : Nat) ≤ _; omega, fun f hf => by
  rw [List.eq_of_mem_replicate hf]
  show (txt (aN 128)).size ≤ _
  rw [aN_size]
  omega⟩
theorem rep_fits2 (n : Nat) (hn : n ≤ 20) : Fits (List.replicate n fA ++ [fB]) := ⟨by rw [List.length_append, List.length_replicate, List.length_singleton]; omega, fun f hf => by
  rcases List.mem_append.1 hf with hf | hf
  · exact (rep_fits n hn).name f hf
  · rw [List.mem_singleton.1 hf]; show (6 : Nat) ≤ _; omega, fun f hf => by
  rcases List.mem_append.1 hf with hf | hf
  · exact (rep_fits n hn).value f hf
  · rw [List.mem_singleton.1 hf]; show (1 : Nat) ≤ _; omega⟩
theorem nil_len (l : List (List UInt8)) : ((((l.map txt).length : Nat) : Int) == 0) = decide (l = []) := by
  rw [List.length_map, Bool.eq_iff_iff, beq_iff_eq, decide_eq_true_eq, ← List.length_eq_zero_iff]
  omega
theorem app98 (a : ByteArray) : (a ++ (⟨#[98]⟩ : ByteArray)).size = a.size + 1 := ByteArray.size_append
theorem app_sz (a b : ByteArray) : (a ++ b).size = a.size + b.size := ByteArray.size_append
theorem long_l1 (a0 v : ByteArray) (h0 : a0.size ≤ 140737488351232) (hv : v.size ≤ 140737488351232) (n : Nat) (hn : n < 16) (d : Nat) : ∀ (k i : Nat), n - i = d → i ≤ n → d + 200 < k →
    transeptlaw12_SafeLong.l1 k a0 v (n : Int) true (txt (aN 128)) (List.replicate i fA) (i : Int) = some true := by
  induction d with
  | zero =>
    intro k i hd' hi hk
    obtain ⟨k, rfl⟩ : ∃ m, k = m + 1 := ⟨k - 1, by omega⟩
    obtain rfl : i = n := by omega
    have c1 : ¬ (i : Int) < (i : Int) := by omega
    have u1 := unsafe_f (rep_fits i (by omega)) k (by rw [List.length_replicate]; omega)
    have u2 := unsafe_f (rep_fits2 i (by omega)) k (by rw [List.length_append, List.length_replicate, List.length_singleton]; omega)
    have c2 : (List.replicate i fA).length < 4398046511104 := by rw [List.length_replicate]; omega
    have z := aN_size 128
    have z2 : (txt (aN 128) ++ (⟨#[98]⟩ : ByteArray)).size = (txt (aN 128)).size + 1 := app98 _
    have z3 : (txt (aN 128) ++ (⟨#[98]⟩ : ByteArray) ++ v).size = (txt (aN 128) ++ (⟨#[98]⟩ : ByteArray)).size + v.size := app_sz _ _
    have c3 : (txt (aN 128)).size + 1 ≤ 9223372036854775807 := by omega
    have c4 : (txt (aN 128) ++ (⟨#[98]⟩ : ByteArray)).size + v.size ≤ 9223372036854775807 := by omega
    have b1 : a0.size ≤ 1152921504606846976 := by omega
    have b2 : (txt (aN 128) ++ (⟨#[98]⟩ : ByteArray) ++ v).size ≤ 1152921504606846976 := by omega
    have b3 : 128 < (txt (aN 128) ++ (⟨#[98]⟩ : ByteArray) ++ v).size := by omega
    have b4 : (txt (aN 128)).size ≤ 1152921504606846976 := by omega
    have f1 : Ext.safe_Header.f a0 (txt (aN 128) ++ (⟨#[98]⟩ : ByteArray) ++ v) = some false := by
      rw [header_f _ _ b1 b2, Plain.hdr_long (by rw [len_eq]; exact b3)]
    have f2 : Ext.safe_Header.f (⟨#[97, 99, 99, 101, 112, 116]⟩ : ByteArray) (txt (aN 128)) = some true := by
      rw [header_f _ _ (by decide +kernel) b4, Ext.txt_data, Plain.hdr_accept (by decide +kernel), aN_odd, show (aN 128).length = 128 from List.length_replicate ..]
      rfl
    have e1 : ((((unsP (List.replicate i fA)).map txt).length : Int) == 0) = decide ((i : Int) ≤ 8) := by
      rw [nil_len, decide_eq_decide, uns_rep]
      omega
    have e2 : ((((unsP (List.replicate i fA ++ [fB])).map txt).length : Int) == 0) = decide ((i : Int) < 8) := by
      rw [nil_len, decide_eq_decide, uns_rep2]
      omega
    unfold transeptlaw12_SafeLong.l1
    simp only [if_neg c1, u1, Option.bind_some, if_pos c2, if_true, if_pos c3, if_pos c4, f1, f2, e1]
    rw [show ([(⟨(⟨#[97, 99, 99, 101, 112, 116]⟩ : ByteArray), (⟨#[98]⟩ : ByteArray)⟩ : S30)]) = [fB] from rfl, u2]
    simp only [Option.bind_some, e2, beq_self_eq_true, if_true]
    rfl
  | succ d ih =>
    intro k i hd' hi hk
    obtain ⟨k, rfl⟩ : ∃ m, k = m + 1 := ⟨k - 1, by omega⟩
    have c1 : (i : Int) < (n : Int) := by omega
    have c2 : (List.replicate i fA).length < 4398046511104 := by rw [List.length_replicate]; omega
    have b5 : i + 1 ≤ 9223372036854775807 := by omega
    have hI := ih k (i + 1) (by omega) (by omega) (by omega)
    have w := wrap_one i b5
    rw [List.replicate_succ'] at hI
    unfold transeptlaw12_SafeLong.l1
    simp only [if_pos c1, if_pos c2, w]
    exact hI
theorem long_l0 (a0 v : ByteArray) (h0 : a0.size ≤ 140737488351232) (hv : v.size ≤ 140737488351232) (n : Nat) (hn : n < 16) (d : Nat) : ∀ (k i : Nat), 128 - i = d → i ≤ 128 → d + 300 < k →
    transeptlaw12_SafeLong.l0 k a0 v (n : Int) true (txt (aN i)) = some true := by
  induction d with
  | zero =>
    intro k i hd' hi hk
    obtain ⟨k, rfl⟩ : ∃ m, k = m + 1 := ⟨k - 1, by omega⟩
    obtain rfl : i = 128 := by omega
    have c1 : ¬ ((txt (aN 128)).size : Int) < 128 := by rw [aN_size]; omega
    have hE := long_l1 a0 v h0 hv n hn n k 0 rfl (Nat.zero_le _) (by omega)
    unfold transeptlaw12_SafeLong.l0
    simp only [if_neg c1]
    exact hE
  | succ d ih =>
    intro k i hd' hi hk
    obtain ⟨k, rfl⟩ : ∃ m, k = m + 1 := ⟨k - 1, by omega⟩
    have c1 : ((txt (aN i)).size : Int) < 128 := by rw [aN_size]; omega
    have c2 : (txt (aN i)).size + 1 ≤ 9223372036854775807 := by rw [aN_size]; omega
    have hI := ih k (i + 1) (by omega) (by omega) (by omega)
    unfold transeptlaw12_SafeLong.l0
    simp only [if_pos c1, if_pos c2, aN_snoc]
    exact hI
theorem SafeLong (a0 a1 : ByteArray) (a2 : Int) (h0 : a0.size ≤ 140737488351232) (h1 : a1.size ≤ 140737488351232) (_h2 : (Lit.int .i64 a2).wf = true) : ∃ k, transeptlaw12_SafeLong.f k a0 a1 a2 = some true := by
  refine ⟨1000, ?_⟩
  obtain ⟨n, hn, en⟩ := long_and a2
  have hmn : mn (a1.size : Int) 200 = ((min a1.size 200 : Nat) : Int) := by
    unfold mn
    split <;> omega
  have c1 : (0 : Int) ≤ ((min a1.size 200 : Nat) : Int) := by omega
  have c2 : ((min a1.size 200 : Nat) : Int) ≤ (a1.size : Int) := by omega
  unfold transeptlaw12_SafeLong.f
  rw [show transeptlaw12_shown.f 1000 = some true from rfl, hmn, en]
  simp only [Option.bind_some, if_pos c1, if_pos c2, Int.toNat_natCast]
  have hz : (a1.extract 0 (min a1.size 200)).size ≤ 140737488351232 := by
    rw [← len_eq, Lib.extract_eq]
    show ((a1.data.toList.drop 0).take _).length ≤ _
    rw [List.length_take]
    omega
  exact long_l0 a0 _ h0 hz n hn 128 1000 0 rfl (Nat.zero_le _) (by omega)
end Go.Proofs.YtikhboebmmmopaaDoor.Pure
