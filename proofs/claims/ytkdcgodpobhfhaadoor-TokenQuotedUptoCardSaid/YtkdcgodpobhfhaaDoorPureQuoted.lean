/-
  THE PLAIN LAW of TokenQuoted: what the printed law computes is true. Condition: texts of at most 1048576 bytes.
-/
import Derived.Test.YtkdcgodpobhfhaaDoorPureC
import Derived.Test.YtkdcgodpobhfhaaDoorFun6
namespace Go.Proofs.YtkdcgodpobhfhaaDoor.Pure
open Go.RowKit Go.Proofs.YtkdcgodpobhfhaaDoorW.PrintWords
open Go.Proofs.YtkdcgodpobhfhaaDoor.Ext (txt Big)
open Go.Proofs.YtkdcgodpobhfhaaDoor.Fun

theorem txt_append (a b : List UInt8) : txt a ++ txt b = txt (a ++ b) := by
  apply Ext.data_inj
  simp [Ext.txt_data]
theorem parts_small (l : List UInt8) (h : l.length ≤ 100000000) : (Plain.parts l).length ≤ 8796093022208 := by
  have := partsGo_len 0 [] l
  unfold Plain.parts
  omega
theorem q_shape (a x : List UInt8) : txt [34] ++ txt a ++ txt (34 :: 44 :: x) = txt (34 :: (a ++ 34 :: 44 :: x)) := by
  rw [txt_append, txt_append]
  simp
theorem quoted_end (s name : ByteArray) (hs : s.size ≤ 1048576) (hn : name.size ≤ 1048576) (hq : ∀ c ∈ s.data.toList, (c == 34) = false ∧ (c == 92) = false) (k : Nat) (hk : 100000000 < k) (i : Int) (hi : ¬ i < (s.size : Int)) :
    transeptlaw09_TokenQuoted.l0 (k + 1) s name true i = some true := by
  have hsl : s.data.toList.length = s.size := len_eq s
  have hnl : name.data.toList.length = name.size := len_eq name
  have hnB : name.size ≤ Big := by show _ ≤ 9223372036854775807; omega
  have e0 : (⟨#[34]⟩ : ByteArray) ++ s = txt (34 :: s.data.toList) := by
    rw [show (⟨#[34]⟩ : ByteArray) = txt [34] from rfl]
    conv => lhs; rw [show s = txt s.data.toList from rfl]
    rw [txt_append]
    rfl
  have e1 : txt (34 :: s.data.toList) ++ (⟨#[34]⟩ : ByteArray) = txt (34 :: (s.data.toList ++ [34])) := by
    rw [show (⟨#[34]⟩ : ByteArray) = txt [34] from rfl, txt_append]
    rfl
  have e2 : txt (34 :: s.data.toList) ++ (⟨#[34, 44]⟩ : ByteArray) = txt (34 :: (s.data.toList ++ [34, 44])) := by
    rw [show (⟨#[34, 44]⟩ : ByteArray) = txt [34, 44] from rfl, txt_append]
    rfl
  have e3 : txt (34 :: (s.data.toList ++ [34, 44])) ++ name = txt (34 :: (s.data.toList ++ 34 :: 44 :: name.data.toList)) := by
    conv => lhs; rw [show name = txt name.data.toList from rfl]
    rw [txt_append]
    simp
  have p1 := Plain.parts_quoted hq
  have p2 := Plain.parts_open hq
  have z1 : (34 :: (s.data.toList ++ [34])).length = s.size + 2 := by simp
  have z0 : (34 :: s.data.toList).length = s.size + 1 := by simp
  have z2 : (34 :: (s.data.toList ++ [34, 44])).length = s.size + 3 := by simp
  have z3 : (34 :: (s.data.toList ++ 34 :: 44 :: name.data.toList)).length = s.size + name.size + 3 := by simp; omega
  simp only [transeptlaw09_TokenQuoted.l0]
  rw [if_neg hi, name_ext name hnB, e0, e1, e2, e3]
  rw [parts_f (txt (34 :: (s.data.toList ++ [34]))) (by rw [Ext.txt_data]; exact parts_small _ (by omega)) (by rw [Ext.txt_size]; omega) k (by rw [Ext.txt_size]; omega),
    parts_f (txt (34 :: s.data.toList)) (by rw [Ext.txt_data]; exact parts_small _ (by omega)) (by rw [Ext.txt_size]; omega) k (by rw [Ext.txt_size]; omega),
    parts_f (txt (34 :: (s.data.toList ++ 34 :: 44 :: name.data.toList))) (by rw [Ext.txt_data]; exact parts_small _ (by omega)) (by rw [Ext.txt_size]; omega) k (by rw [Ext.txt_size]; omega)]
  simp only [Option.bind_some, Ext.txt_data, Ext.txt_size]
  rw [p1, z0, z2]
  have hr0 : rdOf ByteArray.empty (List.map txt [34 :: (s.data.toList ++ [34])]) 0 = txt (34 :: (s.data.toList ++ [34])) := rfl
  rw [hr0, txt_list, List.length_map, List.length_map, p2]
  rw [if_pos (by omega), if_pos (by omega), if_pos (by simp), if_pos (by simp), if_pos rfl, if_pos (by decide), if_pos (by omega), if_pos (by omega), if_pos trivial]
  by_cases h : Plain.nameB name.data.toList = true
  · rw [if_pos h, Plain.parts_behind hq h]
    have hr1 : rdOf ByteArray.empty (List.map txt [34 :: (s.data.toList ++ [34]), name.data.toList]) 0 = txt (34 :: (s.data.toList ++ [34])) := rfl
    rw [List.length_map, hr1, txt_list, if_pos (by simp), if_pos (by simp), if_pos rfl, if_pos (by simp)]
    have : (rdOf ByteArray.empty (List.map txt [34 :: (s.data.toList ++ [34]), name.data.toList]) 1) = name := rfl
    rw [this]
    simp
  · rw [if_neg h]

theorem quoted_l0' (s name : ByteArray) (hs : s.size ≤ 1048576) (hn : name.size ≤ 1048576) (d : Nat) : ∀ (k i : Nat), s.size - i = d → i ≤ s.size → (∀ c ∈ s.data.toList.take i, (c == 34) = false ∧ (c == 92) = false) → d + 200000000 < k →
    transeptlaw09_TokenQuoted.l0 k s name true (i : Int) = some true := by
  induction d with
  | zero =>
    intro k i hd hi hq hk
    obtain ⟨k, rfl⟩ : ∃ m, k = m + 1 := ⟨k - 1, by omega⟩
    rw [List.take_of_length_le (by rw [len_eq]; omega)] at hq
    exact quoted_end s name hs hn hq k (by omega) i (by omega)
  | succ d ih =>
    intro k i hd hi hq hk
    obtain ⟨k, rfl⟩ : ∃ m, k = m + 1 := ⟨k - 1, by omega⟩
    have hl : i < s.data.toList.length := by rw [len_eq]; omega
    simp only [transeptlaw09_TokenQuoted.l0]
    rw [if_pos (by omega), if_pos (by omega), bt_nat s i hl, wrap_in (by omega) (by omega), show ((i : Int) + 1) = ((i + 1 : Nat) : Int) from by omega]
    by_cases h : (s.data.toList[i].toNat : Int) = 34
    · rw [if_pos h]
    · rw [if_neg h]
      by_cases h2 : (s.data.toList[i].toNat : Int) = 92
      · rw [if_pos h2]
      · rw [if_neg h2]
        refine ih k (i + 1) (by omega) (by omega) (fun c hc => ?_) (by omega)
        rw [List.take_succ_eq_append_getElem hl] at hc
        rcases List.mem_append.1 hc with hc | hc
        · exact hq c hc
        · obtain rfl := List.mem_singleton.1 hc
          rw [beq_eq_false_iff_ne, beq_eq_false_iff_ne]
          constructor
          · intro e
            rw [e] at h
            exact h rfl
          · intro e
            rw [e] at h2
            exact h2 rfl

theorem TokenQuoted (s name : ByteArray) (hs : s.size ≤ 1048576) (hn : name.size ≤ 1048576) : ∃ k, transeptlaw09_TokenQuoted.f k s name = some true := by
  obtain ⟨K, hK⟩ : ∃ K : Nat, 300000000 ≤ K := ⟨_, Nat.le_refl _⟩
  refine ⟨K, ?_⟩
  unfold transeptlaw09_TokenQuoted.f
  rw [shown_f _ (by omega)]
  simp only [Option.bind_some]
  exact quoted_l0' s name hs hn s.size _ 0 (by omega) (Nat.zero_le _) (by simp) (by omega)
end Go.Proofs.YtkdcgodpobhfhaaDoor.Pure
