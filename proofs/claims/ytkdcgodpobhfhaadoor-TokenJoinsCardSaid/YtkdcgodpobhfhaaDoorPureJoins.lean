/-
  THE PLAIN LAW of TokenJoins: what the printed law computes is true. Condition: each text has at most 140737488351232 bytes.
-/
import Derived.Test.YtkdcgodpobhfhaaDoorPureC
import Derived.Test.YtkdcgodpobhfhaaDoorFun4
namespace Go.Proofs.YtkdcgodpobhfhaaDoor.Pure
open Go.RowKit Go.Proofs.YtkdcgodpobhfhaaDoorW.PrintWords
open Go.Proofs.YtkdcgodpobhfhaaDoor.Ext (txt Big)
open Go.Proofs.YtkdcgodpobhfhaaDoor.Fun

theorem txt_append (a b : List UInt8) : txt a ++ txt b = txt (a ++ b) := by
  apply Ext.data_inj
  simp [Ext.txt_data]
def pre (b : Bool) : List UInt8 := if b then [32, 9] else []
def post (b : Bool) : List UInt8 := if b then [32] else []
theorem rd_text (l : List ByteArray) (i : Nat) (h : i < l.length) : rdOf ByteArray.empty l (i : Int) = txt l[i].data.toList := rd_nat l i h

theorem joins_j3 (k : Nat) (l0 : List ByteArray) (l1 : List Bool) (names : List ByteArray) (S : List UInt8) (i : Nat) (b : Bool) (hi : i < l0.length) (h50 : i < 50) (hS : S.length ≤ 1152921504606846976) (hn : l0[i].size ≤ 140737488351232) (hN : names.length < 8796093022208) :
    ∃ b2 : Bool, transeptlaw09_TokenJoins.j3 (k + 1) l0 l1 true names (txt S) (i : Int) b = transeptlaw09_TokenJoins.l0 k l0 l1 true (names ++ [l0[i]]) (txt (S ++ (pre b ++ l0[i].data.toList ++ post b2))) ((i + 1 : Nat) : Int) := by
  have hnl : l0[i].data.toList.length = l0[i].size := len_eq _
  have e2 : (⟨#[32, 9]⟩ : ByteArray) = txt [32, 9] := rfl
  have e1 : (⟨#[32]⟩ : ByteArray) = txt [32] := rfl
  simp only [transeptlaw09_TokenJoins.j3]
  rw [wrap_in (i := 2 * (i : Int)) (by omega) (by omega), wrap_in (i := (i : Int) + 1) (by omega) (by omega), show ((i : Int) + 1) = ((i + 1 : Nat) : Int) from by omega, rd_text l0 i hi, e1, e2]
  have last : ∀ (T : List UInt8), T.length ≤ 2000000000000000000 → ∃ b2 : Bool, (if (l1.length : Int) > 2 * (i : Int) then (if 0 ≤ 2 * (i : Int) then (if 2 * (i : Int) < (l1.length : Int) then (if rdOf false l1 (2 * (i : Int)) = true then (if (txt T).size + 1 ≤ 9223372036854775807 then (if names.length < 8796093022208 then (transeptlaw09_TokenJoins.l0 k l0 l1 true (names ++ [txt l0[i].data.toList]) (txt T ++ txt [32]) ((i + 1 : Nat) : Int)) else (none)) else (none)) else (if names.length < 8796093022208 then (transeptlaw09_TokenJoins.l0 k l0 l1 true (names ++ [txt l0[i].data.toList]) (txt T) ((i + 1 : Nat) : Int)) else (none))) else (none)) else (none)) else (if names.length < 8796093022208 then (transeptlaw09_TokenJoins.l0 k l0 l1 true (names ++ [txt l0[i].data.toList]) (txt T) ((i + 1 : Nat) : Int)) else (none))) = transeptlaw09_TokenJoins.l0 k l0 l1 true (names ++ [l0[i]]) (txt (T ++ post b2)) ((i + 1 : Nat) : Int) := by
    intro T hT
    by_cases h : (l1.length : Int) > 2 * (i : Int)
    · rw [if_pos h, if_pos (by omega), if_pos (by omega)]
      by_cases h2 : rdOf false l1 (2 * (i : Int)) = true
      · rw [if_pos h2, Ext.txt_size, if_pos (by omega), if_pos hN, txt_append]
        exact ⟨true, rfl⟩
      · rw [if_neg h2, if_pos hN]
        exact ⟨false, by rw [show post false = [] from rfl, List.append_nil]; rfl⟩
    · rw [if_neg h, if_pos hN]
      exact ⟨false, by rw [show post false = [] from rfl, List.append_nil]; rfl⟩
  cases b with
  | true =>
    have := last (S ++ ([32, 9] ++ l0[i].data.toList)) (by simp only [List.length_append, List.length_cons, List.length_nil]; omega)
    obtain ⟨b2, h2⟩ := this
    refine ⟨b2, ?_⟩
    rw [if_pos rfl, if_pos (by rw [Ext.txt_size]; omega), if_pos (by omega), if_pos (by omega), txt_append, if_pos (by rw [Ext.txt_size, Ext.txt_size]; simp only [List.length_append, List.length_cons, List.length_nil]; omega), txt_append, List.append_assoc, h2]
    rw [show pre true = [32, 9] from rfl, List.append_assoc]
  | false =>
    have := last (S ++ l0[i].data.toList) (by simp only [List.length_append]; omega)
    obtain ⟨b2, h2⟩ := this
    refine ⟨b2, ?_⟩
    rw [if_neg (by decide), if_pos (by omega), if_pos (by omega), if_pos (by rw [Ext.txt_size, Ext.txt_size]; omega), txt_append, h2]
    rw [show pre false = [] from rfl, List.nil_append, List.append_assoc]
theorem joins_j2 (k : Nat) (l0 : List ByteArray) (l1 : List Bool) (names : List ByteArray) (S : List UInt8) (i : Nat) :
    ∃ b : Bool, transeptlaw09_TokenJoins.j2 (k + 1) l0 l1 true names (txt S) (i : Int) = transeptlaw09_TokenJoins.j3 k l0 l1 true names (txt S) (i : Int) b := by
  simp only [transeptlaw09_TokenJoins.j2]
  by_cases h : (i : Int) < (l1.length : Int)
  · rw [if_pos h, if_pos (by omega)]
    exact ⟨_, rfl⟩
  · rw [if_neg h]
    exact ⟨_, rfl⟩

/-- what has been put together so far -/
structure State (N : List (List UInt8)) (S : List UInt8) (i : Nat) : Prop where
  empty : N = [] → S = []
  parts : N ≠ [] → Plain.parts S = N
  noq : ∀ c ∈ S, (c == 34) = false
  few : N.length ≤ i
  short : S.length ≤ i * 140737488351240

theorem piece_clean (b b2 : Bool) {x : List UInt8} (h : Plain.nameB x = true) : (∀ c ∈ pre b ++ x ++ post b2, (c == 44) = false ∧ (c == 34) = false) ∧ Plain.trimP Plain.isTab (pre b ++ x ++ post b2) = x := by
  have hp : ∀ c ∈ pre b, Plain.isTab c = true ∧ (c == 44) = false ∧ (c == 34) = false := by cases b <;> decide
  have hq : ∀ c ∈ post b2, Plain.isTab c = true ∧ (c == 44) = false ∧ (c == 34) = false := by cases b2 <;> decide
  constructor
  · intro c hc
    rcases List.mem_append.1 hc with hc | hc
    · rcases List.mem_append.1 hc with hc | hc
      · exact (hp c hc).2
      · have h' := h
        simp only [Plain.nameB, Bool.and_eq_true, List.all_eq_true] at h'
        exact ⟨(Plain.tok_not_sep c (h'.2 c hc)).1, (Plain.tok_not_sep c (h'.2 c hc)).2.1⟩
    · exact (hq c hc).2
  · rw [Plain.trimP_right _ _ (fun c hc => (hq c hc).1), Plain.trimP_left _ _ (fun c hc => (hp c hc).1), Plain.name_tab h]

theorem State.next {N : List (List UInt8)} {S : List UInt8} {i : Nat} (h : State N S i) (b b2 : Bool) {x : List UInt8} (hx : Plain.nameB x = true) (hl : x.length ≤ 140737488351232) :
    State (N ++ [x]) ((if N = [] then [] else S ++ [44]) ++ (pre b ++ x ++ post b2)) (i + 1) := by
  obtain ⟨h1, h2⟩ := piece_clean b b2 hx
  have hpl : (pre b).length ≤ 2 := by cases b <;> decide
  have hql : (post b2).length ≤ 1 := by cases b2 <;> decide
  have hs := h.short
  by_cases hN : N = []
  · rw [if_pos hN, List.nil_append]
    refine ⟨fun e => by simp at e, fun _ => ?_, fun c hc => (h1 c hc).2, ?_, ?_⟩
    · rw [Plain.parts_one h1, h2, hN]
      rfl
    · rw [List.length_append, hN]; simp
    · rw [List.length_append, List.length_append]
      omega
  · rw [if_neg hN]
    refine ⟨fun e => by simp at e, fun _ => ?_, fun c hc => ?_, ?_, ?_⟩
    · rw [List.append_assoc, List.singleton_append, Plain.parts_snoc h.noq h1, h2, h.parts hN]
    · rcases List.mem_append.1 hc with hc | hc
      · rcases List.mem_append.1 hc with hc | hc
        · exact h.noq c hc
        · obtain rfl := List.mem_singleton.1 hc
          decide
      · exact (h1 c hc).2
    · have := h.few
      rw [List.length_append]
      simp only [List.length_singleton]
      omega
    · simp only [List.length_append, List.length_singleton]
      omega
theorem State.skip {N : List (List UInt8)} {S : List UInt8} {i : Nat} (h : State N S i) : State N S (i + 1) :=
  ⟨h.empty, h.parts, h.noq, Nat.le_trans h.few (Nat.le_add_right i 1), Nat.le_trans h.short (Nat.mul_le_mul_right _ (Nat.le_add_right i 1))⟩

theorem joins_end (k : Nat) (l0 : List ByteArray) (l1 : List Bool) (N : List (List UInt8)) (S : List UInt8) (i : Nat) (h : State N S i) (h50 : i ≤ 50) (hk : 30000000000000000000 < k) :
    transeptlaw09_TokenJoins.j1 (k + 1) l0 l1 true (N.map txt) (txt S) (i : Int) false = some true := by
  have hs := h.short
  have hf := h.few
  simp only [transeptlaw09_TokenJoins.j1]
  rw [if_neg (by decide), List.length_map]
  by_cases hN : N = []
  · rw [if_pos (by rw [hN]; rfl), if_pos trivial, h.empty hN]
    rw [parts_f (txt []) (by decide +kernel) (by decide +kernel) k (by rw [Ext.txt_size]; simp only [List.length_nil]; omega)]
    simp only [Option.bind_some]
    rw [show List.map txt (Plain.parts (txt []).data.toList) = [(⟨#[]⟩ : ByteArray)] from rfl, same_f _ (by decide) k (by simp only [List.length_singleton]; omega)]
    rfl
  · have h0 : N.length ≠ 0 := fun e => hN (List.length_eq_zero_iff.1 e)
    rw [if_neg (by omega), if_pos trivial, parts_f _ (by rw [Ext.txt_data, h.parts hN]; omega) (by rw [Ext.txt_size]; omega) k (by rw [Ext.txt_size]; omega), Ext.txt_data, h.parts hN]
    simp only [Option.bind_some]
    rw [same_f _ (by rw [List.length_map]; omega) k (by rw [List.length_map]; omega)]
    rfl

theorem joins_l0 (l0 : List ByteArray) (l1 : List Bool) (hz : ∀ s ∈ l0, s.size ≤ 140737488351232) (d : Nat) : ∀ (k i : Nat) (N : List (List UInt8)) (S : List UInt8), 50 - i = d → i ≤ 50 → State N S i → 4 * d + 40000000000000000000 < k →
    transeptlaw09_TokenJoins.l0 k l0 l1 true (N.map txt) (txt S) (i : Int) = some true := by
  induction d with
  | zero =>
    intro k i N S hd hi hst hk
    obtain ⟨k, rfl⟩ : ∃ m, k = m + 2 := ⟨k - 2, by omega⟩
    have : transeptlaw09_TokenJoins.l0 (k + 2) l0 l1 true (N.map txt) (txt S) (i : Int) = transeptlaw09_TokenJoins.j1 (k + 1) l0 l1 true (N.map txt) (txt S) (i : Int) false := by
      simp only [transeptlaw09_TokenJoins.l0]
      split
      · rw [decide_eq_false (by omega)]
      · rfl
    rw [this]
    exact joins_end k l0 l1 N S i hst hi (by omega)
  | succ d ih =>
    intro k i N S hd hi hst hk
    obtain ⟨k, rfl⟩ : ∃ m, k = m + 4 := ⟨k - 4, by omega⟩
    by_cases hlt : i < l0.length
    · have hsz := hz l0[i] (List.getElem_mem hlt)
      have hszB : l0[i].size ≤ Big := by show _ ≤ 9223372036854775807; omega
      have hs := hst.short
      have hf := hst.few
      have e0 : transeptlaw09_TokenJoins.l0 (k + 4) l0 l1 true (N.map txt) (txt S) (i : Int) = transeptlaw09_TokenJoins.j1 (k + 3) l0 l1 true (N.map txt) (txt S) (i : Int) true := by
        simp only [transeptlaw09_TokenJoins.l0]
        rw [if_pos (by omega), decide_eq_true (by omega)]
      rw [e0]
      simp only [transeptlaw09_TokenJoins.j1]
      rw [if_pos trivial, if_pos (by omega), if_pos (by omega), rd_nat l0 i hlt, name_ext _ hszB]
      simp only [Option.bind_some]
      rw [wrap_in (by omega) (by omega), show ((i : Int) + 1) = ((i + 1 : Nat) : Int) from by omega, List.length_map]
      by_cases hnm : Plain.nameB l0[i].data.toList = true
      · rw [if_pos hnm]
        have hnl : l0[i].data.toList.length = l0[i].size := len_eq _
        by_cases hN : N = []
        · rw [if_neg (by rw [hN]; decide), hst.empty hN]
          obtain ⟨b, hb⟩ := joins_j2 (k + 1) l0 l1 (N.map txt) [] i
          obtain ⟨b2, hb2⟩ := joins_j3 k l0 l1 (N.map txt) [] i b hlt (by omega) (by simp) hsz (by rw [List.length_map]; omega)
          rw [hb, hb2]
          have hn := hst.next b b2 hnm (by omega)
          rw [if_pos hN] at hn
          have := ih k (i + 1) _ _ (by omega) (by omega) hn (by omega)
          rw [List.map_append] at this
          exact this
        · have h0 : N.length ≠ 0 := fun e => hN (List.length_eq_zero_iff.1 e)
          rw [if_pos (by omega), if_pos (by rw [Ext.txt_size]; omega), show (⟨#[44]⟩ : ByteArray) = txt [44] from rfl, txt_append]
          obtain ⟨b, hb⟩ := joins_j2 (k + 1) l0 l1 (N.map txt) (S ++ [44]) i
          obtain ⟨b2, hb2⟩ := joins_j3 k l0 l1 (N.map txt) (S ++ [44]) i b hlt (by omega) (by rw [List.length_append]; simp only [List.length_singleton]; omega) hsz (by rw [List.length_map]; omega)
          rw [hb, hb2]
          have hn := hst.next b b2 hnm (by omega)
          rw [if_neg hN] at hn
          have := ih k (i + 1) _ _ (by omega) (by omega) hn (by omega)
          rw [List.map_append] at this
          exact this
      · rw [if_neg hnm]
        exact ih (k + 2) (i + 1) N S (by omega) (by omega) hst.skip (by omega)
    · have : transeptlaw09_TokenJoins.l0 (k + 4) l0 l1 true (N.map txt) (txt S) (i : Int) = transeptlaw09_TokenJoins.j1 (k + 3) l0 l1 true (N.map txt) (txt S) (i : Int) false := by
        simp only [transeptlaw09_TokenJoins.l0]
        rw [if_neg (by omega)]
      rw [this]
      exact joins_end (k + 2) l0 l1 N S i hst hi (by omega)

theorem TokenJoins (l0 : List ByteArray) (l1 : List Bool) (hz : ∀ s ∈ l0, s.size ≤ 140737488351232) : ∃ k, transeptlaw09_TokenJoins.f k l0 l1 = some true := by
  obtain ⟨K, hK⟩ : ∃ K : Nat, 50000000000000000000 ≤ K := ⟨_, Nat.le_refl _⟩
  refine ⟨K, ?_⟩
  unfold transeptlaw09_TokenJoins.f
  rw [shown_f _ (by omega)]
  simp only [Option.bind_some]
  exact joins_l0 l0 l1 hz 50 K 0 [] [] rfl (Nat.zero_le _) ⟨fun _ => rfl, fun h => absurd rfl h, by simp, Nat.le_refl _, Nat.le_refl _⟩ (by omega)
end Go.Proofs.YtkdcgodpobhfhaaDoor.Pure
