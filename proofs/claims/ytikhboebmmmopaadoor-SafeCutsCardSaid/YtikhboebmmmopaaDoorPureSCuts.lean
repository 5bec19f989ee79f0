/-
  THE PLAIN LAW of SafeCuts: what the printed law computes is true. Condition: sizes of at most 140737488351232.
-/
import Derived.Test.YtikhboebmmmopaaDoorPureS
import Derived.Test.YtikhboebmmmopaaDoorFunWCuts
import Derived.Laws.BitsLemmas
namespace Go.Proofs.YtikhboebmmmopaaDoor.Pure
open Go.RowKit Go.Proofs.YtikhboebmmmopaaDoorW.PrintWords
open Go.Proofs.YtikhboebmmmopaaDoor.Ext (txt Big)
open Go.Proofs.YtikhboebmmmopaaDoor.Fun Go.Proofs.YtikhboebmmmopaaDoor.PureS
theorem and16 (n : Int) : ∃ m : Nat, m < 65536 ∧ Go.bits .and .i64 n 65535 = (m : Int) := by
  have h48 : (BitVec.ofInt 64 65535).toNat = 2 ^ 16 - 1 := by decide
  have key : (BitVec.ofInt 64 n &&& BitVec.ofInt 64 65535).toNat = (n % ((2 ^ 64 : Nat) : Int)).toNat % 2 ^ 16 := by
    rw [BitVec.toNat_and, BitVec.toNat_ofInt, h48, Nat.and_two_pow_sub_one_eq_mod]
  refine ⟨(n % ((2 ^ 64 : Nat) : Int)).toNat % 2 ^ 16, Nat.mod_lt _ (by decide), ?_⟩
  show IntKind.i64.wrap ((BitVec.ofInt 64 n &&& BitVec.ofInt 64 65535).toNat : Nat) = _
  rw [key, IntKind.wrap_i64]
  have : (n % ((2 ^ 64 : Nat) : Int)).toNat % 2 ^ 16 < 2 ^ 16 := Nat.mod_lt _ (by decide)
  omega
theorem wrap_sub {n x : Nat} (h : x ≤ n) (hn : n ≤ 4611686018427387904) : wrap64 ((n : Int) - (x : Int)) = ((n - x : Nat) : Int) := by
  rw [wrap_in (by omega) (by omega)]
  omega
theorem modN (m z : Nat) (hz : 0 < z) : Int.tmod (m : Int) (z : Int) = ((m % z : Nat) : Int) := by
  rw [Int.tmod_eq_emod_of_nonneg (by omega)]
  rfl
def bA : ByteArray := ⟨#[97, 99, 99, 101, 112, 116]⟩
def bAL : ByteArray := ⟨#[97, 99, 99, 101, 112, 116, 45, 108, 97, 110, 103, 117, 97, 103, 101]⟩
def bCL : ByteArray := ⟨#[99, 111, 110, 116, 101, 110, 116, 45, 108, 97, 110, 103, 117, 97, 103, 101]⟩
def bCT : ByteArray := ⟨#[99, 111, 110, 116, 101, 110, 116, 45, 116, 121, 112, 101]⟩
def bR : ByteArray := ⟨#[114, 97, 110, 103, 101]⟩
theorem part_at (a : ByteArray) (x y : Nat) : (a.extract x y).data.toList = (a.data.toList.drop x).take (y - x) := by
  rw [Lib.extract_eq]
theorem cuts_j0 (k : Nat) (p : ByteArray) (hp : p.size ≤ 140737488351232) : transeptlaw12_SafeCuts.j0 (k + 1) true p false = some true := by
  have ap : ∀ c : UInt8, (p ++ (⟨#[c]⟩ : ByteArray)).data.toList = p.data.toList ++ [c] := fun c => by simp [ByteArray.data_append]
  have sp : ∀ c : UInt8, (p ++ (⟨#[c]⟩ : ByteArray)).size ≤ 1152921504606846976 := fun c => by
    have : (p ++ (⟨#[c]⟩ : ByteArray)).size = p.size + 1 := ByteArray.size_append
    omega
  have c1 : p.size + 1 ≤ 9223372036854775807 := by omega
  have e1 : Ext.safe_Header.f (⟨#[97, 99, 99, 101, 112, 116]⟩ : ByteArray) (p ++ (⟨#[40]⟩ : ByteArray)) = some false := by
    rw [header_f _ _ (by decide +kernel) (sp 40), ap 40, Plain.cuts_paren (by decide +kernel)]
  have e2 : Ext.safe_Header.f (⟨#[99, 111, 110, 116, 101, 110, 116, 45, 116, 121, 112, 101]⟩ : ByteArray) (p ++ (⟨#[123]⟩ : ByteArray)) = some false := by
    rw [header_f _ _ (by decide +kernel) (sp 123), ap 123, Plain.cuts_brace (by decide +kernel)]
  have e3 : Ext.safe_Header.f (⟨#[114, 97, 110, 103, 101]⟩ : ByteArray) (p ++ (⟨#[34]⟩ : ByteArray)) = some false := by
    rw [header_f _ _ (by decide +kernel) (sp 34), ap 34, Plain.cuts_quote (by decide +kernel)]
  have e4 : Ext.safe_Header.f (⟨#[99, 111, 110, 116, 101, 110, 116, 45, 108, 97, 110, 103, 117, 97, 103, 101]⟩ : ByteArray) (p ++ (⟨#[64]⟩ : ByteArray)) = some false := by
    rw [header_f _ _ (by decide +kernel) (sp 64), ap 64, Plain.cuts_at (by decide +kernel)]
  simp only [transeptlaw12_SafeCuts.j0, e1, e2, e3, e4, Option.bind_some, if_pos c1]
  rfl
theorem SafeCuts (a0 : ByteArray) (a1 a2 : Int) (h0 : a0.size ≤ 140737488351232) (_h1 : (Lit.int .i64 a1).wf = true) (_h2 : (Lit.int .i64 a2).wf = true) : ∃ k, transeptlaw12_SafeCuts.f k a0 a1 a2 = some true := by
  obtain ⟨m, _, hm⟩ := and16 a1
  obtain ⟨n, _, hn⟩ := and16 a2
  refine ⟨100 + 1, ?_⟩
  have w1 : wrap64 ((a0.size : Int) + 1) = ((a0.size + 1 : Nat) : Int) := wrap_one a0.size (by omega)
  have hx := Nat.mod_lt m (show 0 < a0.size + 1 by omega)
  have d1 : Int.tmod (m : Int) ((a0.size + 1 : Nat) : Int) = ((m % (a0.size + 1) : Nat) : Int) := modN m (a0.size + 1) (by omega)
  unfold transeptlaw12_SafeCuts.f
  rw [hm, hn, w1, d1]
  clear hm hn w1 d1
  generalize m % (a0.size + 1) = x at hx
  have b1 : x ≤ a0.size := by omega
  have b2 : a0.size ≤ 4611686018427387904 := by omega
  have b3 : a0.size - x + 1 ≤ 9223372036854775807 := by omega
  have b4 : 0 < a0.size - x + 1 := by omega
  have hy := Nat.mod_lt n b4
  have w2 := wrap_sub b1 b2
  have w3 := wrap_one (a0.size - x) b3
  have d2 := modN n (a0.size - x + 1) b4
  rw [w2, w3, d2]
  clear w2 w3 d2
  generalize n % (a0.size - x + 1) = y at hy
  have b5 : x + y ≤ 9223372036854775807 := by omega
  have w4 := wrap_add x y b5
  rw [w4, Int.toNat_natCast, Int.toNat_natCast]
  clear w4
  have hpa := part_at a0 x (x + y)
  have hps : (a0.extract x (x + y)).size ≤ 140737488351232 := by
    rw [← len_eq, hpa]
    have := Plain.part_len a0.data.toList x (x + y - x)
    rw [len_eq] at this
    omega
  generalize a0.extract x (x + y) = p at hpa hps
  have s0 : a0.size ≤ 1152921504606846976 := by omega
  have sp : p.size ≤ 1152921504606846976 := by omega
  have c1 : ¬ ((a0.size + 1 : Nat) : Int) = 0 := by omega
  have c2 : ¬ ((a0.size - x + 1 : Nat) : Int) = 0 := by omega
  have c3 : (0 : Int) ≤ (x : Int) := by omega
  have c4 : (x : Int) ≤ ((x + y : Nat) : Int) := by omega
  have c5 : ((x + y : Nat) : Int) ≤ (a0.size : Int) := by omega
  have f1 : Ext.safe_Header.f (⟨#[97, 99, 99, 101, 112, 116]⟩ : ByteArray) a0 = some (Plain.hdr bA.data.toList a0.data.toList) := header_f _ _ (by decide +kernel) s0
  have f2 : Ext.safe_Header.f (⟨#[97, 99, 99, 101, 112, 116]⟩ : ByteArray) p = some (Plain.hdr bA.data.toList p.data.toList) := header_f _ _ (by decide +kernel) sp
  have f3 : Ext.safe_Header.f (⟨#[97, 99, 99, 101, 112, 116, 45, 108, 97, 110, 103, 117, 97, 103, 101]⟩ : ByteArray) a0 = some (Plain.hdr bAL.data.toList a0.data.toList) := header_f _ _ (by decide +kernel) s0
  have f4 : Ext.safe_Header.f (⟨#[99, 111, 110, 116, 101, 110, 116, 45, 108, 97, 110, 103, 117, 97, 103, 101]⟩ : ByteArray) p = some (Plain.hdr bCL.data.toList p.data.toList) := header_f _ _ (by decide +kernel) sp
  have g1 : Plain.hdr bA.data.toList a0.data.toList = true → Plain.hdr bA.data.toList p.data.toList = true := fun h => by rw [hpa]; exact Plain.cuts_accept (by decide +kernel) x (x + y - x) h
  have g2 : Plain.hdr bAL.data.toList a0.data.toList = true → Plain.hdr bCL.data.toList p.data.toList = true := fun h => by rw [hpa]; exact Plain.cuts_lang (by decide +kernel) (by decide +kernel) x (x + y - x) h
  have hj := cuts_j0 100 p hps
  rw [show transeptlaw12_shown.f (100 + 1) = some true from rfl]
  simp only [Option.bind_some, if_neg c1, if_neg c2, if_pos c3, if_pos c4, if_pos c5, f1, f2, f3, f4]
  cases q1 : Plain.hdr bA.data.toList a0.data.toList
  · cases q2 : Plain.hdr bAL.data.toList a0.data.toList
    · simpa using hj
    · rw [g2 q2]
      simpa using hj
  · rw [g1 q1]
    cases q2 : Plain.hdr bAL.data.toList a0.data.toList
    · simpa using hj
    · rw [g2 q2]
      simpa using hj
end Go.Proofs.YtikhboebmmmopaaDoor.Pure
