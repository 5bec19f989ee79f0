/-
  THE PLAIN LAW of SafeApart: what the printed law computes is true. Condition: sizes of at most 140737488351232.
-/
import Derived.Test.YtikhboebmmmopaaDoorPureS
import Derived.Test.YtikhboebmmmopaaDoorFunWApart
import Derived.Sort.Walk0
namespace Go.Proofs.YtikhboebmmmopaaDoor.Pure
open Go.RowKit Go.Proofs.YtikhboebmmmopaaDoorW.PrintWords Go.Proofs.YtikhboebmmmopaaDoorW.PrintMore
open Go.Proofs.YtikhboebmmmopaaDoor.Ext (txt Big)
open Go.Proofs.YtikhboebmmmopaaDoor.Fun Go.Proofs.YtikhboebmmmopaaDoor.PureS
theorem wrap_back {i : Nat} (h0 : 0 < i) (h : i ≤ 9223372036854775807) : wrap64 ((i : Int) - 1) = ((i - 1 : Nat) : Int) := by
  rw [wrap_in (by omega) (by omega)]
  omega
theorem uns_mem_key {l : List S30} {x : List UInt8} (h : x ∈ unsP l) : ∃ f ∈ l, field_Names.key f = x := by
  obtain ⟨f, h1, h2, _⟩ := (Plain.mem_uns hd ln field_Names.key x l).1 h
  exact ⟨f, h1, h2⟩
theorem uns_low {l : List S30} {x : List UInt8} (h : x ∈ unsP l) : Plain.lower x = x := by
  obtain ⟨f, _, rfl⟩ := uns_mem_key h
  exact Plain.lower_lower _
theorem uns_sz {l : List S30} (hl : Fits l) {x : List UInt8} (h : x ∈ unsP l) : x.length ≤ 140737488351300 := by
  obtain ⟨f, hf, rfl⟩ := uns_mem_key h
  have := hl.name f hf
  unfold field_Names.key
  rw [Plain.lower_length, len_eq]
  exact this
theorem one_at (l : List S30) (i : Nat) (h : i < l.length) : (l.take (i + 1)).drop i = [l[i]] := by
  rw [List.take_succ_eq_append_getElem h]
  exact List.drop_left' (by rw [List.length_take]; omega)
theorem apart_l2 {l : List S30} (hF : Fits l) (hl : l.length ≤ 50) (d : Nat) : ∀ (k i : Nat), l.length - i = d → i ≤ l.length → d + 1000 < k →
    transeptlaw12_SafeApart.l2 k l true ((unsP l).map txt) (i : Int) = some true := by
  have hul := unsP_le l
  induction d with
  | zero =>
    intro k i hd' hi hk
    obtain ⟨k, rfl⟩ : ∃ m, k = m + 1 := ⟨k - 1, by omega⟩
    have c1 : ¬ (i : Int) < (l.length : Int) := by omega
    simp only [transeptlaw12_SafeApart.l2, if_neg c1]
  | succ d ih =>
    intro k i hd' hi hk
    obtain ⟨k, rfl⟩ : ∃ m, k = m + 1 := ⟨k - 1, by omega⟩
    have hli : i < l.length := by omega
    have c1 : (i : Int) < (l.length : Int) := by omega
    have c2 : (0 : Int) ≤ (i : Int) := by omega
    have c3 : (i : Int) ≤ ((i + 1 : Nat) : Int) := by omega
    have c4 : ((i + 1 : Nat) : Int) ≤ (l.length : Int) := by omega
    have b5 : i + 1 ≤ 9223372036854775807 := by omega
    have hI := ih k (i + 1) (by omega) (by omega) (by omega)
    have hone := one_at l i hli
    have hrd := rd_F l i hli
    have hmem := List.getElem_mem hli
    generalize l[i] = f at hone hrd hmem
    have hF1 : Fits [f] := hF.sub (fun g hg => by rw [List.mem_singleton.1 hg]; exact hmem) (by simp)
    have u := unsafe_f hF1 k (by show 1 < k; omega)
    have hh := header_f f.f0 f.f1 (Nat.le_trans (hF.name f hmem) (by decide)) (Nat.le_trans (hF.value f hmem) (by decide))
    have hin := in_f (unsP l) (field_Names.key f) (by omega) k (by omega)
    have w := wrap_one i b5
    simp only [transeptlaw12_SafeApart.l2, if_pos c1, if_pos c2, w, if_pos c3, if_pos c4, Int.toNat_natCast, hone, u, Option.bind_some, hrd, hh]
    cases hp : hd f with
    | true =>
      have e : unsP [f] = [] := Plain.uns_one_ok hd ln field_Names.key f hp (Nat.le_trans (hd_len hp) (by decide))
      have hp' : Plain.hdr f.f0.data.toList f.f1.data.toList = true := hp
      rw [hp', if_pos rfl, e]
      exact hI
    | false =>
      have e : unsP [f] = [field_Names.key f] := Plain.uns_one_bad hd ln field_Names.key f hp
      have hp' : Plain.hdr f.f0.data.toList f.f1.data.toList = false := hp
      have hm : field_Names.key f ∈ unsP l := (Plain.mem_uns hd ln field_Names.key _ l).2 ⟨f, hmem, rfl, .inl hp⟩
      rw [decide_eq_true hm] at hin
      rw [hp', if_neg (by decide), e]
      rw [show rdOf ByteArray.empty ([field_Names.key f].map txt) 0 = txt (field_Names.key f) from rfl, hin]
      exact hI
theorem apart_l1 {l : List S30} (hF : Fits l) (hl : l.length ≤ 50) (d : Nat) : ∀ (k i : Nat), (unsP l).length - i = d → i ≤ (unsP l).length → d + 2000 < k →
    transeptlaw12_SafeApart.l1 k l true ((unsP l).map txt) ((unsP l).map txt) (i : Int) = some true := by
  have hul := unsP_le l
  have hlm : ((unsP l).map txt).length = (unsP l).length := List.length_map ..
  induction d with
  | zero =>
    intro k i hd' hi hk
    obtain ⟨k, rfl⟩ : ∃ m, k = m + 1 := ⟨k - 1, by omega⟩
    have c1 : ¬ (i : Int) < (((unsP l).map txt).length : Int) := by omega
    have hE := apart_l2 hF hl l.length k 0 rfl (Nat.zero_le _) (by omega)
    simp only [transeptlaw12_SafeApart.l1, if_neg c1]
    exact hE
  | succ d ih =>
    intro k i hd' hi hk
    obtain ⟨k, rfl⟩ : ∃ m, k = m + 1 := ⟨k - 1, by omega⟩
    have hli : i < (unsP l).length := by omega
    have c1 : (i : Int) < (((unsP l).map txt).length : Int) := by omega
    have c2 : (0 : Int) ≤ (i : Int) := by omega
    have b5 : i + 1 ≤ 9223372036854775807 := by omega
    have hI := ih k (i + 1) (by omega) (by omega) (by omega)
    have hrd : rdOf ByteArray.empty ((unsP l).map txt) (i : Int) = txt (unsP l)[i] := by rw [rd_V _ i (by omega), List.getElem_map]
    have hx := List.getElem_mem hli
    have hlow := lower_f (txt (unsP l)[i]) (by rw [Ext.txt_size]; exact Nat.le_trans (uns_sz hF hx) (by decide))
    rw [Ext.txt_data, uns_low hx] at hlow
    have w := wrap_one i b5
    by_cases h0 : i = 0
    · have c3 : ¬ (i : Int) > 0 := by omega
      generalize (unsP l)[i] = x at hrd hlow
      simp only [transeptlaw12_SafeApart.l1, if_pos c1, if_pos c2, hrd, if_true, if_neg c3, hlow, Option.bind_some, w]
      exact hI
    · have c3 : (i : Int) > 0 := by omega
      have c4 : (0 : Int) ≤ ((i - 1 : Nat) : Int) := by omega
      have c5 : ((i - 1 : Nat) : Int) < (((unsP l).map txt).length : Int) := by omega
      have hrd2 : rdOf ByteArray.empty ((unsP l).map txt) ((i - 1 : Nat) : Int) = txt (unsP l)[i - 1] := by rw [rd_V _ (i - 1) (by omega), List.getElem_map]
      have hlt : (unsP l)[i - 1] < (unsP l)[i] := List.pairwise_iff_getElem.1 (Plain.uns_sorted hd ln field_Names.key l) (i - 1) i (by show i - 1 < (unsP l).length; omega) hli (by omega)
      have hb : Op.bytesLess (txt (unsP l)[i - 1]).toList (txt (unsP l)[i]).toList = true := by
        rw [list_eq, list_eq, Ext.txt_data, Ext.txt_data, bytesLess_eq, decide_eq_true hlt]
      have w2 := wrap_back (i := i) (by omega) (by omega)
      generalize (unsP l)[i] = x at hrd hlow hb
      generalize (unsP l)[i - 1] = y at hrd2 hb
      simp only [transeptlaw12_SafeApart.l1, if_pos c1, if_pos c2, hrd, if_true, if_pos c3, w2, if_pos c4, if_pos c5, hrd2, hb, hlow, Option.bind_some, w]
      exact hI
theorem apart_l0 {l : List S30} (hF : Fits l) (hl : l.length ≤ 50) : ∀ (i k : Nat), i ≤ l.length → i + 5000 < k →
    transeptlaw12_SafeApart.l0 k l true (l.drop i).reverse (i : Int) = some true := by
  have hul := unsP_le l
  intro i
  induction i with
  | zero =>
    intro k hi hk
    obtain ⟨k, rfl⟩ : ∃ m, k = m + 1 := ⟨k - 1, by omega⟩
    have c1 : ¬ ((0 : Nat) : Int) > 0 := by omega
    have hFr : Fits l.reverse := hF.sub (fun f hf => List.mem_reverse.1 hf) (by rw [List.length_reverse]; omega)
    have u1 := unsafe_f hF k (by omega)
    have u2 := unsafe_f hFr k (by rw [List.length_reverse]; omega)
    have e : unsP l.reverse = unsP l := Plain.uns_reverse hd ln field_Names.key l
    rw [e] at u2
    have hE := apart_l1 hF hl (unsP l).length k 0 rfl (Nat.zero_le _) (by omega)
    rw [List.drop_zero]
    simp only [transeptlaw12_SafeApart.l0, if_neg c1, u1, u2, Option.bind_some, if_true]
    exact hE
  | succ i ih =>
    intro k hi hk
    obtain ⟨k, rfl⟩ : ∃ m, k = m + 1 := ⟨k - 1, by omega⟩
    have hli : i < l.length := by omega
    have c1 : ((i + 1 : Nat) : Int) > 0 := by omega
    have c2 : (0 : Int) ≤ (i : Int) := by omega
    have c3 : (i : Int) < (l.length : Int) := by omega
    have c4 : ((l.drop (i + 1)).reverse).length < 4398046511104 := by rw [List.length_reverse, List.length_drop]; omega
    have hI := ih k (by omega) (by omega)
    have hrd := rd_F l i hli
    rw [drop_cons hli, List.reverse_cons] at hI
    generalize l[i] = f at hrd hI
    have w2 : wrap64 (((i + 1 : Nat) : Int) - 1) = (i : Int) := wrap_back (i := i + 1) (by omega) (by omega)
    simp only [transeptlaw12_SafeApart.l0, if_pos c1, w2, if_pos c2, if_pos c3, if_pos c4, hrd]
    exact hI
theorem SafeApart (l0 : List S30) (h0 : ∀ s ∈ l0, s.f0.size ≤ 140737488351232 ∧ s.f1.size ≤ 140737488351232) : ∃ k, transeptlaw12_SafeApart.f k l0 = some true := by
  obtain ⟨k, hk⟩ : ∃ k : Nat, 10000 < k := ⟨_, Nat.lt_succ_self _⟩
  refine ⟨k, ?_⟩
  have hmn : mn (l0.length : Int) 50 = ((min l0.length 50 : Nat) : Int) := by
    unfold mn
    split <;> omega
  have c1 : (0 : Int) ≤ ((min l0.length 50 : Nat) : Int) := by omega
  have c2 : ((min l0.length 50 : Nat) : Int) ≤ (l0.length : Int) := by omega
  have hlen : (l0.take (min l0.length 50)).length ≤ 50 := by rw [List.length_take]; omega
  have hF : Fits (l0.take (min l0.length 50)) := ⟨by omega, fun f hf => Nat.le_trans (h0 f (List.mem_of_mem_take hf)).1 (by decide), fun f hf => Nat.le_trans (h0 f (List.mem_of_mem_take hf)).2 (by decide)⟩
  unfold transeptlaw12_SafeApart.f
  rw [show transeptlaw12_shown.f k = some true from rfl, hmn]
  simp only [Option.bind_some, if_pos c1, if_pos c2, Int.toNat_natCast]
  generalize l0.take (min l0.length 50) = l at hF hlen
  have := apart_l0 hF hlen l.length k (Nat.le_refl _) (by omega)
  rw [List.drop_length] at this
  exact this
end Go.Proofs.YtikhboebmmmopaaDoor.Pure
