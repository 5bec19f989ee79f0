/-
  THE PLAIN LAW of SafeRanges: what the printed law computes is true. No condition beyond the numbers' own.
-/
import Derived.Test.YtikhboebmmmopaaDoorPureS
import Derived.Test.YtikhboebmmmopaaDoorFunWRanges
import Derived.Laws.BitsLemmas
namespace Go.Proofs.YtikhboebmmmopaaDoor.Pure
open Go.RowKit Go.Proofs.YtikhboebmmmopaaDoorW.PrintWords
open Go.Proofs.YtikhboebmmmopaaDoor.Ext (txt Big)
open Go.Proofs.YtikhboebmmmopaaDoor.Fun Go.Proofs.YtikhboebmmmopaaDoor.PureS
theorem and48 (n : Int) : Go.bits .and .i64 n 281474976710655 = n % 281474976710656 := by
  have h48 : (BitVec.ofInt 64 281474976710655).toNat = 2 ^ 48 - 1 := by decide
  have key : (BitVec.ofInt 64 n &&& BitVec.ofInt 64 281474976710655).toNat = (n % ((2 ^ 64 : Nat) : Int)).toNat % 2 ^ 48 := by
    rw [BitVec.toNat_and, BitVec.toNat_ofInt, h48, Nat.and_two_pow_sub_one_eq_mod]
  show IntKind.i64.wrap ((BitVec.ofInt 64 n &&& BitVec.ofInt 64 281474976710655).toNat : Nat) = n % 281474976710656
  rw [key, IntKind.wrap_i64]
  omega
theorem the_n (n : Int) : ∃ m : Nat, m < 1000000000 ∧ Int.tmod (Go.bits .and .i64 n 281474976710655) 1000000000 = (m : Int) := by
  rw [and48]
  have h0 : 0 ≤ n % 281474976710656 := Int.emod_nonneg _ (by omega)
  rw [Int.tmod_eq_emod_of_nonneg h0]
  exact ⟨(n % 281474976710656 % 1000000000).toNat, by omega, by omega⟩
theorem dig_ok : ∀ (j n : Nat), n < 10 ^ (j + 1) → (digL n).all Ext.isDig = true ∧ digL n ≠ [] ∧ (digL n).length ≤ j + 1 ∧ Ext.numG (digL n) = n
  | 0, n, h => by
    have hn : n < 10 := by simpa using h
    rw [digL_small hn]
    refine ⟨?_, by simp, by simp, ?_⟩
    · have : ∀ m, m < 10 → Ext.isDig (UInt8.ofNat (48 + m)) = true := by decide
      simpa using this n hn
    · have : ∀ m, m < 10 → Ext.numG [UInt8.ofNat (48 + m)] = m := by decide
      exact this n hn
  | j + 1, n, h => by
    by_cases hn : n < 10
    · obtain ⟨h1, h2, h3, h4⟩ := dig_ok 0 n (by simpa using hn)
      exact ⟨h1, h2, by omega, h4⟩
    · have hd : n / 10 < 10 ^ (j + 1) := by
        rw [Nat.pow_succ] at h
        omega
      obtain ⟨h1, h2, h3, h4⟩ := dig_ok j (n / 10) hd
      have hm : n % 10 < 10 := Nat.mod_lt _ (by omega)
      rw [digL_big hn]
      refine ⟨?_, by simp, by rw [List.length_append]; simp only [List.length_cons, List.length_nil]; omega, ?_⟩
      · have : ∀ m, m < 10 → Ext.isDig (UInt8.ofNat (48 + m)) = true := by decide
        rw [List.all_append, h1]
        simpa using this _ hm
      · have : ∀ m, m < 10 → (UInt8.ofNat (48 + m)).toNat - 48 = m := by decide
        rw [Ext.numG_snoc, h4, this _ hm]
        omega
theorem digits_f (k n : Nat) (h : n < 1000000000) : transeptlaw12_digits.f k (n : Int) = some (txt (digL n)) := by
  unfold transeptlaw12_digits.f
  rw [if_pos ⟨by omega, by omega⟩, Int.toNat_natCast]
theorem ranges_app (a b : ByteArray) : (a ++ b).data.toList = a.data.toList ++ b.data.toList := by simp [ByteArray.data_append]
theorem ranges_len (a b : ByteArray) : (a ++ b).size = a.size + b.size := ByteArray.size_append
def bRange : ByteArray := ⟨#[114, 97, 110, 103, 101]⟩
def bRange2 : ByteArray := ⟨#[82, 97, 110, 103, 101]⟩
theorem rng {n : List UInt8} (hn : Plain.lower n = Plain.nRange) {v : List UInt8} (hv : v.length ≤ 128) : Plain.hdr n v = Plain.rangB v := by
  rw [Plain.hdr_range hn, decide_eq_true hv, Bool.true_and]
theorem SafeRanges (a0 a1 : Int) (_h0 : (Lit.int .i64 a0).wf = true) (_h1 : (Lit.int .i64 a1).wf = true) : ∃ k, transeptlaw12_SafeRanges.f k a0 a1 = some true := by
  obtain ⟨m, hm, em⟩ := the_n a0
  obtain ⟨n, hn, en⟩ := the_n a1
  obtain ⟨p1, p2, p3, p4⟩ := dig_ok 8 m (by simpa using hm)
  obtain ⟨q1, q2, q3, q4⟩ := dig_ok 8 n (by simpa using hn)
  refine ⟨100, ?_⟩
  have dm := digits_f 100 m hm
  have dn := digits_f 100 n hn
  have zs : (txt (digL m)).size ≤ 9 := by rw [Ext.txt_size]; omega
  have zt : (txt (digL n)).size ≤ 9 := by rw [Ext.txt_size]; omega
  have hdm : (txt (digL m)).data.toList = digL m := rfl
  have hdn : (txt (digL n)).data.toList = digL n := rfl
  unfold transeptlaw12_SafeRanges.f
  rw [em, en, dm, dn]
  clear em en dm dn
  generalize txt (digL m) = s at zs hdm
  generalize txt (digL n) = t at zt hdn
  generalize hBY : (⟨#[98, 121, 116, 101, 115, 61]⟩ : ByteArray) = BY
  generalize hDA : (⟨#[45]⟩ : ByteArray) = DA
  generalize hBD : (⟨#[98, 121, 116, 101, 115, 61, 45]⟩ : ByteArray) = BD
  have zBY : BY.size = 6 := by rw [← hBY]; rfl
  have zDA : DA.size = 1 := by rw [← hDA]; rfl
  have zBD : BD.size = 7 := by rw [← hBD]; rfl
  have lBY : BY.data.toList = Plain.pBytes := by rw [← hBY]; rfl
  have lDA : DA.data.toList = [45] := by rw [← hDA]
  have lBD : BD.data.toList = Plain.pBytes ++ [45] := by rw [← hBD]; rfl
  clear hBY hDA hBD
  have z1 := ranges_len BY s
  have z2 := ranges_len (BY ++ s) DA
  have z3 := ranges_len (BY ++ s ++ DA) t
  have z4 := ranges_len BD t
  have z5 := ranges_len s DA
  have z6 := ranges_len (s ++ DA) t
  have c1 : 6 + s.size ≤ 9223372036854775807 := by omega
  have c2 : (BY ++ s).size + 1 ≤ 9223372036854775807 := by omega
  have c3 : ((BY ++ s) ++ DA).size + t.size ≤ 9223372036854775807 := by omega
  have c4 : 7 + t.size ≤ 9223372036854775807 := by omega
  have c5 : s.size + 1 ≤ 9223372036854775807 := by omega
  have c6 : (s ++ DA).size + t.size ≤ 9223372036854775807 := by omega
  have y1 : (((BY ++ s) ++ DA) ++ t).data.toList = Plain.pBytes ++ digL m ++ [45] ++ digL n := by rw [ranges_app, ranges_app, ranges_app, lBY, lDA, hdm, hdn]
  have y2 : ((BY ++ s) ++ DA).data.toList = Plain.pBytes ++ digL m ++ [45] := by rw [ranges_app, ranges_app, lBY, lDA, hdm]
  have y3 : (BD ++ t).data.toList = Plain.pBytes ++ 45 :: digL n := by rw [ranges_app, lBD, hdn, List.append_assoc]; rfl
  have y4 : ((s ++ DA) ++ t).data.toList = digL m ++ ([45] ++ digL n) := by rw [ranges_app, ranges_app, lDA, hdm, hdn, List.append_assoc]
  have k1 : (((BY ++ s) ++ DA) ++ t).size ≤ 128 := by omega
  have k2 : ((BY ++ s) ++ DA).size ≤ 128 := by omega
  have k3 : (BD ++ t).size ≤ 128 := by omega
  have k4 : ((s ++ DA) ++ t).size ≤ 128 := by omega
  have big : ∀ x : ByteArray, x.size ≤ 128 → x.size ≤ 1152921504606846976 := fun x hx => Nat.le_trans hx (by decide)
  have hp4 : Ext.numG (digL m) < 1000000000 := by rw [p4]; exact hm
  have hq4 : Ext.numG (digL n) < 1000000000 := by rw [q4]; exact hn
  have f1 : Ext.safe_Header.f (⟨#[114, 97, 110, 103, 101]⟩ : ByteArray) (((BY ++ s) ++ DA) ++ t) = some (decide (m ≤ n)) := by
    rw [header_f _ _ (by decide +kernel) (big _ k1), rng (by decide +kernel) (by rw [len_eq]; exact k1), y1, Plain.rang_two p2 (by omega) p1 hp4 q2 (by omega) q1 hq4, p4, q4]
  have f2 : Ext.safe_Header.f (⟨#[82, 97, 110, 103, 101]⟩ : ByteArray) ((BY ++ s) ++ DA) = some true := by
    rw [header_f _ _ (by decide +kernel) (big _ k2), rng (by decide +kernel) (by rw [len_eq]; exact k2), y2, Plain.rang_open p2 (by omega) p1 hp4]
  have f3 : Ext.safe_Header.f (⟨#[114, 97, 110, 103, 101]⟩ : ByteArray) (BD ++ t) = some false := by
    rw [header_f _ _ (by decide +kernel) (big _ k3), rng (by decide +kernel) (by rw [len_eq]; exact k3), y3, Plain.rang_none]
  have f4 : Ext.safe_Header.f (⟨#[114, 97, 110, 103, 101]⟩ : ByteArray) ((s ++ DA) ++ t) = some false := by
    rw [header_f _ _ (by decide +kernel) (big _ k4), rng (by decide +kernel) (by rw [len_eq]; exact k4), y4, Plain.rang_bare p2 p1]
  have hmn : (decide (m ≤ n) == decide ((m : Int) ≤ (n : Int))) = true := by
    rw [beq_iff_eq, decide_eq_decide]
    omega
  rw [show transeptlaw12_shown.f 100 = some true from rfl]
  simp only [Option.bind_some, if_true, if_pos c1, if_pos c2, if_pos c3, f1, hmn, f2, if_pos c4, f3, if_pos c5, if_pos c6, f4]
  rfl
end Go.Proofs.YtikhboebmmmopaaDoor.Pure
