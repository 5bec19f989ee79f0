/-
  PLAIN LAWS: what the printed functions of the references of layers 9 and 10 and of field (Lower, Parts, All, Get, Split, Only; values, Get, Split, Only) come to, in the words of the Plain text. Conditions: rounds enough; sizes as told.
-/
import Derived.Test.YtaabfmpoodjhjaaDoorPureBxA
namespace Go.Proofs.YtaabfmpoodjhjaaDoor.Fun
open Go.RowKit Go.Proofs.YtaabfmpoodjhjaaDoorW.PrintWords
open Go.Proofs.YtaabfmpoodjhjaaDoor.Ext (txt Big)

theorem flower (s : ByteArray) (hs : s.size ≤ Big) : Ext.token_Lower.f s = some (txt (Plain.lower s.data.toList)) := by
  unfold Ext.token_Lower.f
  rw [if_pos hs]
theorem frlower (s : ByteArray) (hs : s.size ≤ Big) : transeptref09_Lower.f s = some (txt (Plain.lower s.data.toList)) := by
  unfold transeptref09_Lower.f
  rw [Ext.turned_lower s hs]
  rfl
theorem ffold (s t : ByteArray) (hs : s.size ≤ Big) (ht : t.size ≤ Big) : Ext.token_Fold.f s t = some (Plain.foldB s.data.toList t.data.toList) := by
  unfold Ext.token_Fold.f
  rw [if_pos ⟨hs, ht⟩]
theorem ftl (l : List UInt8) : (txt l).toList = l := by rw [list_eq, Ext.txt_data]
theorem fapp (a b : List UInt8) : txt a ++ txt b = txt (a ++ b) := by
  apply Ext.data_inj
  simp [Ext.txt_data]

/-! ### the reference's Parts -/
theorem cur_succ (L : List UInt8) (j i : Nat) (hj : j ≤ i) (hi : i < L.length) : ((L.drop j).take (i + 1 - j)).reverse = L[i] :: ((L.drop j).take (i - j)).reverse := by
  rw [show i + 1 - j = (i - j) + 1 from by omega, List.take_succ_eq_append_getElem (by rw [List.length_drop]; omega), List.reverse_append, List.getElem_drop]
  simp only [List.reverse_singleton, List.singleton_append]
  congr 2
  omega
theorem tab_lit : (⟨#[9, 32]⟩ : ByteArray).data.toList = [9, 32] := rfl
theorem rstrip_tab (s : ByteArray) (hs : s.size ≤ Big) (k : Nat) (hk : s.size + s.size + 6 < k) : transeptref09_Strip.f k s ⟨#[9, 32]⟩ = some (txt (Plain.trimP Plain.isTab s.data.toList)) := by
  rw [strip_f s _ hs (by decide +kernel) k (by show s.size + s.size + 2 + 4 < k; omega), tab_lit, setP_tab]
theorem rparts_stop (s : ByteArray) (hs : s.size ≤ 4611686018427387904) (k i j : Nat) (q : Bool) (acc : List ByteArray) (hj : j ≤ s.size) (hi : s.size ≤ i) (hk : s.size + s.size + 8 < k) (ha : acc.length < 8796093022208) :
    transeptref09_Parts.l0 k s acc (j : Int) q (i : Int) = some (acc ++ [txt (Plain.trimP Plain.isTab (s.data.toList.drop j))]) := by
  obtain ⟨k, rfl⟩ : ∃ m, k = m + 1 := ⟨k - 1, by omega⟩
  simp only [transeptref09_Parts.l0]
  rw [if_neg (by omega), if_pos (by omega), if_pos (by omega), Int.toNat_natCast, extract_list, List.take_of_length_le (by rw [List.length_drop, len_eq]; exact Nat.le_refl _),
    rstrip_tab _ (by rw [Ext.txt_size, List.length_drop, len_eq]; show _ ≤ 9223372036854775807; omega) k (by rw [Ext.txt_size, List.length_drop, len_eq]; omega), Ext.txt_data]
  simp only [Option.bind_some]
  rw [if_pos ha]
theorem rparts_l0 (s : ByteArray) (hs : s.size ≤ 4611686018427387904) (d : Nat) : ∀ (k i j st : Nat) (acc : List ByteArray), s.size - i ≤ d → j ≤ i → i ≤ s.size → st < 2 → d + d + s.size + s.size + 20 < k →
    acc.length + (Plain.partsGo st (((s.data.toList.drop j).take (i - j)).reverse) (s.data.toList.drop i)).length ≤ 8796093022208 →
    transeptref09_Parts.l0 k s acc (j : Int) (decide (st = 1)) (i : Int) = some (acc ++ (Plain.partsGo st (((s.data.toList.drop j).take (i - j)).reverse) (s.data.toList.drop i)).map txt) := by
  have stop : ∀ (k i j st : Nat) (acc : List ByteArray), j ≤ i → i = s.size → s.size + s.size + 8 < k → acc.length < 8796093022208 →
      transeptref09_Parts.l0 k s acc (j : Int) (decide (st = 1)) (i : Int) = some (acc ++ (Plain.partsGo st (((s.data.toList.drop j).take (i - j)).reverse) (s.data.toList.drop i)).map txt) := by
    intro k i j st acc hj hi hk ha
    rw [rparts_stop s hs k i j _ acc (by omega) (by omega) hk ha, drop_end (i := i) (by rw [len_eq]; omega)]
    rw [List.take_of_length_le (by rw [List.length_drop, len_eq]; omega)]
    simp [Plain.partsGo]
  induction d with
  | zero =>
    intro k i j st acc hd hj hi hst hk hacc
    refine stop k i j st acc hj (by omega) (by omega) ?_
    have : 0 < (Plain.partsGo st (((s.data.toList.drop j).take (i - j)).reverse) (s.data.toList.drop i)).length := List.length_pos_iff.2 (Plain.partsGo_ne _ _ _)
    omega
  | succ d ih =>
    intro k i j st acc hd hj hi hst hk hacc
    have hpos : 0 < (Plain.partsGo st (((s.data.toList.drop j).take (i - j)).reverse) (s.data.toList.drop i)).length := List.length_pos_iff.2 (Plain.partsGo_ne _ _ _)
    have hal : acc.length < 8796093022208 := by omega
    by_cases hlt : i < s.size
    · obtain ⟨k, rfl⟩ : ∃ m, k = m + 2 := ⟨k - 2, by omega⟩
      have hl : i < s.data.toList.length := by rw [len_eq]; omega
      have hcur := cur_succ s.data.toList j i hj hl
      obtain ⟨c, hc⟩ : ∃ c, c = s.data.toList[i] := ⟨_, rfl⟩
      have e92 : ((c.toNat : Int) = 92) ↔ (c == 92) = true := by
        rw [beq_iff_eq, ← UInt8.toNat_inj]
        show _ ↔ _ = 92
        omega
      have e34 : ((c.toNat : Int) = 34) ↔ (c == 34) = true := by
        rw [beq_iff_eq, ← UInt8.toNat_inj]
        show _ ↔ _ = 34
        omega
      have e44 : ((c.toNat : Int) = 44) ↔ (c == 44) = true := by
        rw [beq_iff_eq, ← UInt8.toNat_inj]
        show _ ↔ _ = 44
        omega
      have hb := bt_nat s i hl
      have hdr := drop_cons hl
      rw [← hc] at hb hcur hdr
      rw [hdr] at hacc ⊢
      obtain ⟨cur, hcu⟩ : ∃ cur, cur = ((s.data.toList.drop j).take (i - j)).reverse := ⟨_, rfl⟩
      rw [← hcu] at hacc hcur ⊢
      simp only [transeptref09_Parts.l0]
      rw [if_pos (by omega)]
      rcases (show st = 0 ∨ st = 1 by omega) with rfl | rfl
      · rw [show decide (0 = 1) = false from rfl, if_neg (by decide)]
        simp only [transeptref09_Parts.j1]
        rw [if_neg (by decide), if_pos (by omega), if_pos (by omega), hb]
        by_cases h34 : (c == 34) = true
        · have h44 : ¬ (c == 44) = true := by
            intro h
            rw [beq_iff_eq] at h h34
            rw [h] at h34
            exact absurd h34 (by decide)
          have hst : Plain.partsGo 0 cur (c :: s.data.toList.drop (i + 1)) = Plain.partsGo 1 (c :: cur) (s.data.toList.drop (i + 1)) := by
            rw [Plain.partsGo, if_neg (fun h => h44 h.2), show Plain.next 0 c = 1 by unfold Plain.next; rw [if_pos rfl, if_pos h34]]
          rw [hst, ← hcur] at hacc ⊢
          rw [if_pos (e34.2 h34), wrap_in (by omega) (by omega), show ((i : Int) + 1) = ((i + 1 : Nat) : Int) from by omega, show (!false) = decide (1 = 1) from rfl]
          exact ih k (i + 1) j 1 acc (by omega) (by omega) (by omega) (by omega) (by omega) hacc
        · rw [if_neg (fun h => h34 (e34.1 h)), if_neg (by decide)]
          by_cases h44 : (c == 44) = true
          · have hst : Plain.partsGo 0 cur (c :: s.data.toList.drop (i + 1)) = Plain.trimP Plain.isTab cur.reverse :: Plain.partsGo 0 [] (s.data.toList.drop (i + 1)) := by
              rw [Plain.partsGo, if_pos ⟨rfl, h44⟩]
            rw [hst] at hacc ⊢
            rw [if_pos (e44.2 h44), if_pos (by omega), if_pos (by omega), if_pos (by omega), Int.toNat_natCast, Int.toNat_natCast, extract_list,
              rstrip_tab _ (by rw [Ext.txt_size, List.length_take, List.length_drop, len_eq]; show _ ≤ 9223372036854775807; omega) k (by rw [Ext.txt_size, List.length_take, List.length_drop, len_eq]; omega), Ext.txt_data]
            simp only [Option.bind_some]
            simp only [List.length_cons] at hacc
            rw [if_pos (by omega), wrap_in (by omega) (by omega), show ((i : Int) + 1) = ((i + 1 : Nat) : Int) from by omega]
            have := ih k (i + 1) (i + 1) 0 (acc ++ [txt (Plain.trimP Plain.isTab ((s.data.toList.drop j).take (i - j)))]) (by omega) (Nat.le_refl _) (by omega) (by omega) (by omega) (by
              rw [Nat.sub_self, List.take_zero, List.reverse_nil, List.length_append]
              simp only [List.length_cons, List.length_nil]
              omega)
            rw [show decide (0 = 1) = false from rfl] at this
            rw [this, Nat.sub_self, List.take_zero, List.reverse_nil, hcu, List.reverse_reverse]
            simp
          · have hst : Plain.partsGo 0 cur (c :: s.data.toList.drop (i + 1)) = Plain.partsGo 0 (c :: cur) (s.data.toList.drop (i + 1)) := by
              rw [Plain.partsGo, if_neg (fun h => h44 h.2), show Plain.next 0 c = 0 by unfold Plain.next; rw [if_pos rfl, if_neg h34]]
            rw [hst, ← hcur] at hacc ⊢
            rw [if_neg (fun h => h44 (e44.1 h)), wrap_in (by omega) (by omega), show ((i : Int) + 1) = ((i + 1 : Nat) : Int) from by omega]
            exact ih k (i + 1) j 0 acc (by omega) (by omega) (by omega) (by omega) (by omega) hacc
      · rw [show decide (1 = 1) = true from rfl, if_pos rfl, if_pos (by omega), hb]
        by_cases h92 : (c == 92) = true
        · have hst : Plain.partsGo 1 cur (c :: s.data.toList.drop (i + 1)) = Plain.partsGo 2 (c :: cur) (s.data.toList.drop (i + 1)) := by
            rw [Plain.partsGo, if_neg (by simp), show Plain.next 1 c = 2 by unfold Plain.next; rw [if_neg (by decide), if_pos rfl, if_pos h92]]
          rw [hst, ← hcur] at hacc ⊢
          rw [show ((c.toNat : Int) == 92) = true from by rw [beq_iff_eq]; exact e92.2 h92]
          simp only [transeptref09_Parts.j1]
          rw [if_pos trivial, wrap_in (i := (i : Int) + 1) (by omega) (by omega), wrap_in (by omega) (by omega), show ((i : Int) + 1 + 1) = ((i + 2 : Nat) : Int) from by omega]
          by_cases hend : i + 1 < s.size
          · have hl2 : i + 1 < s.data.toList.length := by rw [len_eq]; omega
            have hcur2 := cur_succ s.data.toList j (i + 1) (by omega) hl2
            have hst2 : ∀ cu, Plain.partsGo 2 cu (s.data.toList.drop (i + 1)) = Plain.partsGo 1 (s.data.toList[i + 1] :: cu) (s.data.toList.drop (i + 2)) := by
              intro cu
              rw [drop_cons hl2, Plain.partsGo, if_neg (by simp)]
              rfl
            rw [hst2, ← hcur2] at hacc ⊢
            exact ih k (i + 2) j 1 acc (by omega) (by omega) (by omega) (by omega) (by omega) hacc
          · rw [rparts_stop s hs k (i + 2) j _ acc (by omega) (by omega) (by omega) hal, drop_end (i := i + 1) (by rw [len_eq]; omega), List.take_of_length_le (by rw [List.length_drop, len_eq]; omega)]
            simp [Plain.partsGo]
        · rw [show ((c.toNat : Int) == 92) = false from by rw [beq_eq_false_iff_ne]; exact fun h => h92 (e92.1 h)]
          simp only [transeptref09_Parts.j1]
          rw [if_neg (by decide), if_pos (by omega), if_pos (by omega), hb]
          by_cases h34 : (c == 34) = true
          · have hst : Plain.partsGo 1 cur (c :: s.data.toList.drop (i + 1)) = Plain.partsGo 0 (c :: cur) (s.data.toList.drop (i + 1)) := by
              rw [Plain.partsGo, if_neg (by simp), show Plain.next 1 c = 0 by unfold Plain.next; rw [if_neg (by decide), if_pos rfl, if_neg h92, if_pos h34]]
            rw [hst, ← hcur] at hacc ⊢
            rw [if_pos (e34.2 h34), wrap_in (by omega) (by omega), show ((i : Int) + 1) = ((i + 1 : Nat) : Int) from by omega, show (!true) = decide (0 = 1) from rfl]
            exact ih k (i + 1) j 0 acc (by omega) (by omega) (by omega) (by omega) (by omega) hacc
          · have hst : Plain.partsGo 1 cur (c :: s.data.toList.drop (i + 1)) = Plain.partsGo 1 (c :: cur) (s.data.toList.drop (i + 1)) := by
              rw [Plain.partsGo, if_neg (by simp), show Plain.next 1 c = 1 by unfold Plain.next; rw [if_neg (by decide), if_pos rfl, if_neg h92, if_neg h34]]
            rw [hst, ← hcur] at hacc ⊢
            rw [if_neg (fun h => h34 (e34.1 h)), if_pos trivial, wrap_in (by omega) (by omega), show ((i : Int) + 1) = ((i + 1 : Nat) : Int) from by omega]
            exact ih k (i + 1) j 1 acc (by omega) (by omega) (by omega) (by omega) (by omega) hacc
    · exact stop k i j st acc hj (by omega) (by omega) hal
theorem rparts_f (s : ByteArray) (hs : (Plain.parts s.data.toList).length ≤ 8796093022208) (hz : s.size ≤ 4611686018427387904) (k : Nat) (hk : 4 * s.size + 20 < k) : transeptref09_Parts.f k s = some ((Plain.parts s.data.toList).map txt) := by
  have := rparts_l0 s hz s.size k 0 0 0 [] (by omega) (by omega) (by omega) (by omega) (by omega) (by simpa [Plain.parts] using hs)
  unfold transeptref09_Parts.f
  rw [show (0 : Int) = ((0 : Nat) : Int) from rfl]
  rw [show decide (0 = 1) = false from rfl] at this
  rw [this]
  simp [Plain.parts]
end Go.Proofs.YtaabfmpoodjhjaaDoor.Fun
