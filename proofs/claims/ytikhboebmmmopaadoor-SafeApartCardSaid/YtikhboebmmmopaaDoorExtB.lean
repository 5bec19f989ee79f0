/-
  The Go functions token.mapped, token.Lower, token.upper and the reference function turned do what the plain functions say, of any text. Conditions: sizes that an int holds.
-/
import Derived.Test.YtikhboebmmmopaaDoorExtA
import Derived.Lib.ConvBytes
import Derived.Laws.BytesArg
namespace Go.Proofs.YtikhboebmmmopaaDoor.Ext
open Go.RowKit Go.Proofs.YtikhboebmmmopaaDoorW.PrintWords


/-- block B of W holds these bytes, and they may be written -/
def Bys (W : World) (B : Nat) (xs : List Int) : Prop := ∀ j, j < xs.length → W.cell? ⟨B, j, none⟩ = some (.int .u8 (xs.getD j 0)) ∧ W.frozen? ⟨B, j, none⟩ = false
def ints (l : List UInt8) : List Int := l.map fun b => (b.toNat : Int)
theorem ints_length (l : List UInt8) : (ints l).length = l.length := by simp [ints]
theorem ints_getD (l : List UInt8) (j : Nat) (h : j < l.length) : (ints l).getD j 0 = (l[j].toNat : Int) := by
  simp [ints, List.getD, List.getElem?_eq_getElem h]
theorem ints_back (l : List UInt8) : strOfNums (ints l) = ⟨l.toArray⟩ := by
  unfold strOfNums ints
  congr 2
  rw [List.map_map]
  conv => rhs; rw [← List.map_id l]
  apply List.map_congr_left
  intro b _
  simp
theorem bys_new (w : World) (s : ByteArray) (e : TypeId) : Bys (Lib.bytesWorld w e s) w.heap.size (ints s.data.toList) := by
  intro j hj
  rw [ints_length, ← Lib.size_eq] at hj
  refine ⟨?_, ?_⟩
  · rw [Lib.bytesWorld_cell w e s j hj, ints_getD _ _ (by rw [← Lib.size_eq]; exact hj)]
    simp [List.getD, List.getElem?_eq_getElem (show j < s.data.size from hj)]
  · have hsz : s.size ≤ (Lib.bytesCells w e s).size := by simp [Lib.bytesCells]
    simp [World.frozen?, Lib.bytesWorld_at_new]
    omega
theorem below_bytes (w : World) (s : ByteArray) (e : TypeId) : Below w.heap.size w (Lib.bytesWorld w e s) := by
  refine ⟨?_, ?_, ?_, ?_, fun i hi => Lib.bytesWorld_at_old w e s i hi⟩
  · simp [Lib.bytesWorld, World.freeze, World.alloc, World.drew, -World.alloc_eq, -World.drew_eq]
  · simp [Lib.bytesWorld, World.freeze, World.alloc, World.drew, -World.alloc_eq, -World.drew_eq]
  · simp [Lib.bytesWorld, World.freeze, World.alloc, World.drew, -World.alloc_eq, -World.drew_eq]
  · rw [Lib.bytesWorld_size]; omega
theorem bys_set {W : World} {B : Nat} {xs : List Int} (h : Bys W B xs) (i : Nat) (_hi : i < xs.length) (v : Int) : Bys (W.setCell ⟨B, i, none⟩ (.int .u8 v)) B (xs.set i v) := by
  intro j hj
  rw [List.length_set] at hj
  refine ⟨?_, ?_⟩
  · by_cases e : i = j
    · subst e
      rw [World.cell?_setCell_same W ⟨B, i, none⟩ _ (h i hj).1]
      simp [List.getD, hj]
    · rw [World.cell?_setCell_other W ⟨B, i, none⟩ ⟨B, j, none⟩ _ (by intro h2; cases h2; exact e rfl), (h j hj).1]
      simp [List.getD, e]
  · rw [World.frozen?_setCell]
    exact (h j hj).2
theorem bys_back {P : Program} {W : World} {B cap : Nat} {xs : List Int} (h : Bys W B xs) (src dst e : TypeId) (hs : P.underlying src = some (.slice e)) (he : P.underlying e = some (.int .u8)) (hd : P.underlying dst = some .string) (n : Nat) (hn : n = xs.length) :
    (convert src dst (.slice (some ⟨B, 0, none⟩) n cap)).run P W = .ok (.string (strOfNums xs)) W := by
  subst hn
  exact run_convert_bytes_arg W src e hs he B 0 xs.length cap xs rfl (fun i hi => by rw [Nat.zero_add]; exact (h i hi).1) dst hd

/-- a byte's other, by two texts -/
def mapC (fr tb : List UInt8) (c : UInt8) : UInt8 := if 0 ≤ Lib.indexByte fr c then tb.getD (Lib.indexByte fr c).toNat 0 else c
/-- the first n are turned -/
def mapped (fr tb l : List UInt8) (n : Nat) : List UInt8 := (l.take n).map (mapC fr tb) ++ l.drop n
theorem mapped_length (fr tb l : List UInt8) (n : Nat) : (mapped fr tb l n).length = l.length := by
  simp [mapped]
  omega
theorem mapped_zero (fr tb l : List UInt8) : mapped fr tb l 0 = l := by simp [mapped]
theorem mapped_all (fr tb l : List UInt8) : mapped fr tb l l.length = l.map (mapC fr tb) := by simp [mapped]
theorem mapped_at (fr tb l : List UInt8) (n : Nat) (h : n < l.length) : (mapped fr tb l n)[n]'(by rw [mapped_length]; exact h) = l[n] := by
  simp [mapped, Nat.min_eq_left (Nat.le_of_lt h)]
theorem mapped_set (fr tb l : List UInt8) (n : Nat) (h : n < l.length) : mapped fr tb l (n + 1) = (mapped fr tb l n).set n (mapC fr tb l[n]) := by
  unfold mapped
  rw [List.take_succ_eq_append_getElem h, List.map_append, List.set_append]
  simp only [List.length_map, List.length_take, Nat.min_eq_left (Nat.le_of_lt h), Nat.lt_irrefl, if_false, Nat.sub_self]
  rw [List.drop_eq_getElem_cons h]
  simp [List.set]
theorem mapped_same (fr tb l : List UInt8) (n : Nat) (h : n < l.length) (hc : mapC fr tb l[n] = l[n]) : mapped fr tb l (n + 1) = mapped fr tb l n := by
  rw [mapped_set fr tb l n h, hc, ← mapped_at fr tb l n h]
  simp
theorem ints_set (l : List UInt8) (n : Nat) (b : UInt8) : ints (l.set n b) = (ints l).set n (b.toNat : Int) := by simp [ints, List.map_set]
theorem indexByte_lt (l : List UInt8) (c : UInt8) : Lib.indexByte l c < l.length := by
  induction l with
  | nil => simp [Lib.indexByte]
  | cons b l ih =>
    simp only [Lib.indexByte, List.length_cons]
    split
    · omega
    · split <;> omega

set_option maxHeartbeats 1000000 in
theorem mapped_any (s fr tb : ByteArray) (w : World) (hs : s.size ≤ 9223372036854775807) (hft : fr.size ≤ tb.size) :
    Calls Tryd.prog 19 #[.string s, .string fr, .string tb] w fun e w' => e = .returned (.string ⟨(s.data.toList.map (mapC fr.data.toList tb.data.toList)).toArray⟩) ∧ Below w.heap.size w w' := by
  have hcv := fun W : World => Lib.run_convert_string_bytes (P := Tryd.prog) W 9 42 5 s Tryd.underlying9 Tryd.underlying42 Tryd.underlying5
  go_enter Tryd.func19, Tryd.ntmps19
  go_wp2_with fail
  have HB0 := below_bytes w s 5
  have HR0 := Aside0.mk (bys_new w s 5)
  obtain ⟨cap, hcap⟩ : ∃ cap, cap = grownCap w s.size 0 5 := ⟨_, rfl⟩
  rw [← hcap]
  generalize Lib.bytesWorld w 5 s = W0 at HB0 HR0
  clear hcap hcv
  have hl : s.data.toList.length = s.size := (Lib.size_eq s).symm
  have HL := Aside0.mk hl
  clear hl
  go_loopg [15] s.size (fun g v wx => ∃ i : Nat, i + g = s.size ∧ v = .int .i64 i ∧ Aside0 (Bys wx w.heap.size (ints (mapped fr.data.toList tb.data.toList s.data.toList i))) ∧ Below w.heap.size w wx)
  case atStart => exact ⟨0, by omega, rfl, ⟨by rw [mapped_zero]; exact HR0.out⟩, HB0⟩
  case round =>
    obtain ⟨i, hi, rfl, HR, HB⟩ := hrel
    cases gk with
    | zero =>
      obtain rfl : i = s.size := by omega
      have hback := bys_back (P := Tryd.prog) (cap := cap) HR.out 42 9 5 Tryd.underlying42 Tryd.underlying5 Tryd.underlying9 s.size (by rw [ints_length, mapped_length]; exact HL.out.symm)
      rw [← HL.out, mapped_all, ints_back, HL.out] at hback
      clear hi
      go_wp2
      go_ret
      exact ⟨rfl, HB⟩
    | succ g =>
      have hlt : i < s.size := by omega
      have hll : i < s.data.toList.length := by rw [HL.out]; exact hlt
      obtain ⟨x, hx⟩ : ∃ x, x = s.data.toList[i] := ⟨_, rfl⟩
      have hgi : (ints (mapped fr.data.toList tb.data.toList s.data.toList i)).getD i 0 = (x.toNat : Int) := by
        rw [ints_getD _ _ (by rw [mapped_length]; exact hll), mapped_at _ _ _ _ hll, hx]
      obtain ⟨hc, hf⟩ := HR.out i (by rw [ints_length, mapped_length]; exact hll)
      rw [hgi] at hc
      have HX := Aside0.mk hx
      clear hx hgi
      have HI := Aside0.mk hi
      clear hi
      go_wp2_with fail
      refine (Tryd.strings_IndexByte fr _ _).mono ?_
      rintro e W1 ⟨rfl, hw⟩
      subst hw
      rw [show ((x.toNat : Int)).toNat.toUInt8 = x from by simp]
      obtain ⟨k, hk⟩ : ∃ k, k = Lib.indexByte fr.data.toList x := ⟨_, rfl⟩
      rw [← hk]
      have HK := Aside0.mk hk
      clear hk
      by_cases h0 : 0 ≤ k
      · have hkl := indexByte_lt fr.data.toList x
        rw [← HK.out, ← Lib.size_eq] at hkl
        obtain ⟨n, rfl⟩ := Int.eq_ofNat_of_zero_le h0
        have hkn : n < tb.size := by omega
        have hkn' : (n : Int) < (tb.size : Int) := by omega
        clear hkl
        go_wp2
        go_roundg g
        case measure => omega
        case rel =>
          have hgd : tb.data.toList.getD n 0 = tb[n] := by
            have := Lib.data_getElem? tb n hkn
            rw [List.getD, this]
            rfl
          have hm : mapC fr.data.toList tb.data.toList s.data.toList[i] = tb[n] := by
            rw [← HX.out]
            unfold mapC
            rw [← HK.out, if_pos h0, Int.toNat_natCast, hgd]
          refine ⟨i + 1, by have := HI.out; omega, by go_num, ⟨?_⟩, ?_⟩
          · rw [mapped_set _ _ _ _ hll, ints_set, hm]
            exact bys_set HR.out i (by rw [ints_length, mapped_length]; exact hll) _
          · exact HB.setCell (by simp) _
      · go_wp2
        go_roundg g
        case measure => omega
        case rel =>
          refine ⟨i + 1, by have := HI.out; omega, by go_num, ⟨?_⟩, HB⟩
          rw [mapped_same _ _ _ _ hll (by rw [← HX.out]; unfold mapC; rw [← HK.out, if_neg (by omega)])]
          exact HR.out


theorem mapC_low (c : UInt8) : mapC [65, 66, 67, 68, 69, 70, 71, 72, 73, 74, 75, 76, 77, 78, 79, 80, 81, 82, 83, 84, 85, 86, 87, 88, 89, 90] [97, 98, 99, 100, 101, 102, 103, 104, 105, 106, 107, 108, 109, 110, 111, 112, 113, 114, 115, 116, 117, 118, 119, 120, 121, 122] c = Plain.lowC c := by
  have := Plain.all_bytes (p := fun c => mapC [65, 66, 67, 68, 69, 70, 71, 72, 73, 74, 75, 76, 77, 78, 79, 80, 81, 82, 83, 84, 85, 86, 87, 88, 89, 90] [97, 98, 99, 100, 101, 102, 103, 104, 105, 106, 107, 108, 109, 110, 111, 112, 113, 114, 115, 116, 117, 118, 119, 120, 121, 122] c == Plain.lowC c) (by decide +kernel) c
  simpa using this
theorem mapC_up (c : UInt8) : mapC [97, 98, 99, 100, 101, 102, 103, 104, 105, 106, 107, 108, 109, 110, 111, 112, 113, 114, 115, 116, 117, 118, 119, 120, 121, 122] [65, 66, 67, 68, 69, 70, 71, 72, 73, 74, 75, 76, 77, 78, 79, 80, 81, 82, 83, 84, 85, 86, 87, 88, 89, 90] c = Plain.upC c := by
  have := Plain.all_bytes (p := fun c => mapC [97, 98, 99, 100, 101, 102, 103, 104, 105, 106, 107, 108, 109, 110, 111, 112, 113, 114, 115, 116, 117, 118, 119, 120, 121, 122] [65, 66, 67, 68, 69, 70, 71, 72, 73, 74, 75, 76, 77, 78, 79, 80, 81, 82, 83, 84, 85, 86, 87, 88, 89, 90] c == Plain.upC c) (by decide +kernel) c
  simpa using this

set_option maxHeartbeats 1000000 in
theorem lower_any (s : ByteArray) (w : World) (hs : s.size ≤ 9223372036854775807) :
    Calls Tryd.prog 10 #[.string s] w fun e w' => e = .returned (.string ⟨(Plain.lower s.data.toList).toArray⟩) ∧ Below w.heap.size w w' := by
  go_enter Tryd.func10, Tryd.ntmps10
  go_wp2_with fail
  refine (mapped_any s _ _ w hs (by decide +kernel)).mono ?_
  rintro e W1 ⟨rfl, hb1⟩
  rw [show List.map (mapC _ _) s.data.toList = Plain.lower s.data.toList from List.map_congr_left fun c _ => mapC_low c]
  go_wp2
  go_ret
  exact ⟨rfl, hb1⟩
set_option maxHeartbeats 1000000 in
theorem upper_any (s : ByteArray) (w : World) (hs : s.size ≤ 9223372036854775807) :
    Calls Tryd.prog 27 #[.string s] w fun e w' => e = .returned (.string ⟨(Plain.upper s.data.toList).toArray⟩) ∧ Below w.heap.size w w' := by
  go_enter Tryd.func27, Tryd.ntmps27
  go_wp2_with fail
  refine (mapped_any s _ _ w hs (by decide +kernel)).mono ?_
  rintro e W1 ⟨rfl, hb1⟩
  rw [show List.map (mapC _ _) s.data.toList = Plain.upper s.data.toList from List.map_congr_left fun c _ => mapC_up c]
  go_wp2
  go_ret
  exact ⟨rfl, hb1⟩

/-- the document's: turned by 32 -/
def turnC (first : Int) (x : Int) : Int := if first ≤ x ∧ x ≤ first + 25 then Go.bits .xor .u8 x 32 else x
def turnedL (first : Int) (l : List Int) (n : Nat) : List Int := (l.take n).map (turnC first) ++ l.drop n
theorem turnedL_length (first : Int) (l : List Int) (n : Nat) : (turnedL first l n).length = l.length := by
  simp [turnedL]
  omega
theorem turnedL_zero (first : Int) (l : List Int) : turnedL first l 0 = l := by simp [turnedL]
theorem turnedL_all (first : Int) (l : List Int) : turnedL first l l.length = l.map (turnC first) := by simp [turnedL]
theorem turnedL_at (first : Int) (l : List Int) (n : Nat) (h : n < l.length) : (turnedL first l n)[n]'(by rw [turnedL_length]; exact h) = l[n] := by
  simp [turnedL, Nat.min_eq_left (Nat.le_of_lt h)]
theorem turnedL_set (first : Int) (l : List Int) (n : Nat) (h : n < l.length) : turnedL first l (n + 1) = (turnedL first l n).set n (turnC first l[n]) := by
  unfold turnedL
  rw [List.take_succ_eq_append_getElem h, List.map_append, List.set_append]
  simp only [List.length_map, List.length_take, Nat.min_eq_left (Nat.le_of_lt h), Nat.lt_irrefl, if_false, Nat.sub_self]
  rw [List.drop_eq_getElem_cons h]
  simp [List.set]
theorem turnedL_same (first : Int) (l : List Int) (n : Nat) (h : n < l.length) (hc : turnC first l[n] = l[n]) : turnedL first l (n + 1) = turnedL first l n := by
  rw [turnedL_set first l n h, hc, ← turnedL_at first l n h]
  simp
theorem turnC_low (c : UInt8) : turnC 65 (c.toNat : Int) = ((Plain.lowC c).toNat : Int) := by
  have := Plain.all_bytes (p := fun c => decide (turnC 65 (c.toNat : Int) = ((Plain.lowC c).toNat : Int))) (by decide +kernel) c
  simpa using this
theorem turnC_up (c : UInt8) : turnC 97 (c.toNat : Int) = ((Plain.upC c).toNat : Int) := by
  have := Plain.all_bytes (p := fun c => decide (turnC 97 (c.toNat : Int) = ((Plain.upC c).toNat : Int))) (by decide +kernel) c
  simpa using this
theorem turned_low (l : List UInt8) : strOfNums ((ints l).map (turnC 65)) = ⟨(Plain.lower l).toArray⟩ := by
  have : (ints l).map (turnC 65) = ints (Plain.lower l) := by
    unfold ints Plain.lower
    rw [List.map_map, List.map_map]
    exact List.map_congr_left fun c _ => turnC_low c
  rw [this, ints_back]
theorem turned_up (l : List UInt8) : strOfNums ((ints l).map (turnC 97)) = ⟨(Plain.upper l).toArray⟩ := by
  have : (ints l).map (turnC 97) = ints (Plain.upper l) := by
    unfold ints Plain.upper
    rw [List.map_map, List.map_map]
    exact List.map_congr_left fun c _ => turnC_up c
  rw [this, ints_back]

end Go.Proofs.YtikhboebmmmopaaDoor.Ext
