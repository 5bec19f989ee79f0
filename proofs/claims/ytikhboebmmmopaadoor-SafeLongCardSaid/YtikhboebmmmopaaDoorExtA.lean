/-
  The Go functions token.cutLeft, token.cutRight, token.only and token.Name do what the plain functions of the Plain text say, of any text. Conditions: sizes that an int holds; the tables of unicode/utf8 stand as they are laid.
-/
import Derived.Test.YtikhboebmmmopaaDoorProg
import Derived.Test.YtikhboebmmmopaaDoorWWords
import Derived.Test.YtikhboebmmmopaaDoorShelf
import Derived.Test.YtikhboebmmmopaaDoorPlain
import Derived.WalkKit
import Derived.Lib.OthersKept
import Derived.LoopTactic
import Derived.Deep.LoopGhost
import Derived.Lib.SlTrimSet
import Derived.Lib.Strings
import Derived.Lib.IndexBytes
import Derived.WalkLawsBesides
namespace Go.Proofs.YtikhboebmmmopaaDoor.Ext
open Go.RowKit Go.Proofs.YtikhboebmmmopaaDoorW.PrintWords


/-- the set's bytes are ASCII -/
def Asc (l : List UInt8) : Prop := ∀ b ∈ l, b.toNat < 128
theorem asc_at {s : ByteArray} (h : Asc s.data.toList) (i : Nat) (hi : i < s.size) : (s[i]'hi).toNat < 128 :=
  h _ (by
    have := Lib.data_getElem? s i hi
    exact List.mem_of_getElem? this)

/-- does the set's part hold the rune c -/
def hasR (l : List UInt8) (c : Int) : Bool := l.any fun b => decide (c = (b.toNat : Int))
theorem hasR_snoc (l : List UInt8) (b : UInt8) (c : Int) : hasR (l ++ [b]) c = (hasR l c || decide (c = (b.toNat : Int))) := by simp [hasR]
theorem hasR_take (s : ByteArray) (i : Nat) (hi : i < s.size) (c : Int) : hasR (s.data.toList.take (i + 1)) c = (hasR (s.data.toList.take i) c || decide (c = ((s[i]'hi).toNat : Int))) := by
  have h1 : i < s.data.toList.length := by rw [← Lib.size_eq]; exact hi
  rw [List.take_succ_eq_append_getElem h1, hasR_snoc]
  rfl
theorem hasR_high (l : List UInt8) (h : Asc l) (c : Int) (hc : 128 ≤ c) : hasR l c = false := by
  simp only [hasR, List.any_eq_false]
  intro b hb
  have := h b hb
  simp; omega
theorem hasR_byte (l : List UInt8) (x : UInt8) : hasR l (x.toNat : Int) = l.contains x := by
  rw [Bool.eq_iff_iff]
  simp only [hasR, List.any_eq_true, List.contains_iff_mem, decide_eq_true_eq]
  constructor
  · rintro ⟨b, hb, h⟩
    have : x.toNat = b.toNat := by omega
    rw [UInt8.toNat_inj.1 this]; exact hb
  · intro h; exact ⟨x, h, rfl⟩

theorem iter_keep {W : World} {k : Nat} {o : Obj} (h : W.heap[k]? = some o) (s : ByteArray) (j : Nat) : (W.iter s j).heap[k]? = some o :=
  (Below.heap_alloc W _ k (Array.getElem?_eq_some_iff.1 h).1).trans h
theorem extract_end (s : ByteArray) (a : Nat) : s.extract a s.size = ⟨(s.data.toList.drop a).toArray⟩ := by
  rw [Lib.extract_eq, List.take_of_length_le (by rw [List.length_drop, ← Lib.size_eq]; exact Nat.le_refl _)]

set_option maxHeartbeats 1000000 in
theorem cutLeft_any (s set : ByteArray) (w : World) (_hs : s.size ≤ 9223372036854775807) (hA : Asc set.data.toList) :
    Calls Tryd.prog 77 #[.string s, .string set] w fun e w' => e = .returned (.string ⟨(Lib.trimLeftS s.data.toList set.data.toList).toArray⟩) ∧ Below w.heap.size w w' := by
  have HA := Aside0.mk hA
  clear hA
  go_enter Tryd.func77, Tryd.ntmps77
  go_wp2
  go_loopg [] s.size (fun g wx => ∃ pos, pos + g = s.size ∧ Aside0 (wx.heap[w.heap.size]? = some (.stringIter s pos)) ∧ Below w.heap.size w wx ∧ Aside0 (∀ (j : Nat) b, j < pos → s.data.toList[j]? = some b → set.data.toList.contains b = true))
  case atStart => exact ⟨0, by omega, ⟨World.iter_heap _ _ _⟩, (Below.refl _ _).alloc (Nat.le_refl _) _, ⟨fun j b h => absurd h (by omega)⟩⟩
  case round =>
    obtain ⟨pos, hg, HK, HB, HN⟩ := hrel
    cases gk with
    | zero =>
      have hp : ¬ pos < s.size := by omega
      have hnx := fun ty => Lib.run_next_end_at (P := Tryd.prog) wr w.heap.size s pos ty HK.out hp
      go_wp2
      go_ret
      refine ⟨?_, HB⟩
      have hl : s.data.toList.length = s.size := (Lib.size_eq s).symm
      rw [Lib.trimLeftS_drop _ _ s.size (by omega) (fun j b hj hb => HN.out j b (by omega) hb) (fun b hb => by rw [List.getElem?_eq_none (by omega)] at hb; cases hb)]
      rw [List.drop_eq_nil_of_le (by omega)]
      rfl
    | succ g =>
      have hp : pos < s.size := by omega
      have hnx := fun ty => Lib.run_next_any_at (P := Tryd.prog) wr w.heap.size s pos ty HK.out hp
      have HK1 := Aside0.mk (Lib.iterAt_heap wr w.heap.size s pos (pos + (Utf8.decode s pos).2) HK.out)
      have HB1 := Lib.below_iterAt HB (Nat.le_refl _) s (pos + (Utf8.decode s pos).2)
      generalize wr.iterAt w.heap.size s (pos + (Utf8.decode s pos).2) = W1 at hnx HK1 HB1
      obtain ⟨c, hc⟩ : ∃ c : Int, c = ((Utf8.decode s pos).1 : Int) := ⟨_, rfl⟩
      rw [← hc] at hnx
      have HC := Aside0.mk hc
      clear hc
      go_wp2
      go_loopg [7] set.size (fun gi v wy => ∃ (j : Nat) (b : Bool), j + gi = set.size ∧ v = .bool b ∧ Aside0 (b = hasR (set.data.toList.take j) c) ∧ wy = W1.iter set j)
      case atStart => exact ⟨0, false, by omega, rfl, ⟨rfl⟩, rfl⟩
      case round =>
        obtain ⟨j, b, hj, rfl, HV, rfl⟩ := hrel
        cases gk with
        | zero =>
          have hjp : ¬ j < set.size := by omega
          have hnxj := fun ty => run_next_end (P := Tryd.prog) W1 set j ty hjp
          cases b with
          | false =>
            have hno : hasR set.data.toList c = false := by
              rw [HV.out, List.take_of_length_le (by rw [← Lib.size_eq]; omega)]
            have hfin : Lib.trimLeftS s.data.toList set.data.toList = s.data.toList.drop pos := by
              refine Lib.trimLeftS_drop _ _ pos (by rw [← Lib.size_eq]; omega) HN.out (fun b hb => ?_)
              rw [Lib.data_getElem? s pos hp] at hb
              obtain rfl := Option.some.inj hb
              cases hcon : set.data.toList.contains (s[pos]'hp) with
              | false => rfl
              | true =>
                have ha := HA.out _ (List.contains_iff_mem.1 hcon)
                rw [HC.out, decode_ascii s pos hp ha, hasR_byte] at hno
                rw [hno] at hcon
                cases hcon
            have HF := Aside0.mk hfin
            clear hno hfin
            have hpi : (pos : Int) ≤ (s.size : Int) := by omega
            have HB2 : Below w.heap.size w (W1.iter set j) := HB1.alloc HB1.size _
            go_wp2
            go_ret
            refine ⟨?_, HB2⟩
            rw [HF.out, ← extract_end]
            first | rfl | simp
          | true =>
            have hyes : hasR set.data.toList c = true := by
              rw [HV.out, List.take_of_length_le (by rw [← Lib.size_eq]; omega)]
            have ha : (s[pos]'hp).toNat < 128 := by
              by_cases h : (s[pos]'hp).toNat < 128
              · exact h
              · have h1 := (decode_high s pos hp (by omega)).1
                rw [hasR_high _ HA.out c (by rw [HC.out]; omega)] at hyes
                cases hyes
            have hd := decode_ascii s pos hp ha
            rw [HC.out, hd, hasR_byte] at hyes
            have HY := Aside0.mk hyes
            rw [hd] at HK1
            have HK2 : Aside0 ((W1.iter set j).heap[w.heap.size]? = some (Obj.stringIter s (pos + 1))) := ⟨iter_keep HK1.out _ _⟩
            have HB2 : Below w.heap.size w (W1.iter set j) := HB1.alloc HB1.size _
            clear hyes hd ha
            go_wp2
            go_roundg g
            case measure => omega
            case rel =>
              refine ⟨pos + 1, by omega, HK2, HB2, ⟨fun i b hi hb => ?_⟩⟩
              by_cases e : i = pos
              · subst e
                rw [Lib.data_getElem? s i hp] at hb
                obtain rfl := Option.some.inj hb
                exact HY.out
              · exact HN.out i b (by omega) hb
        | succ gj =>
          have hjp : j < set.size := by omega
          have hnxj := fun ty => run_next_ascii (P := Tryd.prog) W1 set j ty hjp (asc_at HA.out j hjp)
          have hv1 := hasR_take set j hjp c
          obtain ⟨x, hx⟩ : ∃ x : Int, x = ((set[j]'hjp).toNat : Int) := ⟨_, rfl⟩
          rw [← hx] at hnxj hv1
          have HV1 := Aside0.mk hv1
          clear hx hv1
          cases b with
          | false =>
            by_cases hcx : c = x
            · have hcb : (c == x) = true := by simpa using hcx
              go_wp2
              go_roundg gj
              case measure => omega
              case rel => exact ⟨j + 1, true, by omega, rfl, ⟨by rw [HV1.out, ← HV.out]; simp [hcx]⟩, rfl⟩
            · have hcb : (c == x) = false := by simpa using hcx
              go_wp2
              go_roundg gj
              case measure => omega
              case rel => exact ⟨j + 1, false, by omega, rfl, ⟨by rw [HV1.out, ← HV.out]; simp [hcx]⟩, rfl⟩
          | true =>
            go_wp2
            go_roundg gj
            case measure => omega
            case rel => exact ⟨j + 1, true, by omega, rfl, ⟨by rw [HV1.out, ← HV.out]; simp⟩, rfl⟩


/-- the decoder's tables stand in this world -/
def Tabs (w : World) : Prop := Lib.Utf8Tabs 1 2 w
theorem tabs_at {w W : World} (h : Tabs w) (hb : Below w.heap.size w W) : Tabs W :=
  ⟨fun c hc => pw_cell_below hb (h.1 c hc), fun i hi => ⟨pw_cell_below hb (h.2 i hi).1, pw_cell_below hb (h.2 i hi).2⟩⟩

theorem last_low (l : List UInt8) (b : UInt8) (h : b.toNat < 128) : Lib.decodeLastL (l ++ [b]) = (b.toNat, 1) := by
  unfold Lib.decodeLastL
  rw [if_neg (by simp)]
  have e : (l ++ [b]).getD ((l ++ [b]).length - 1) 0 = b := by simp
  rw [e, if_pos h]
theorem last_high (l : List UInt8) (b : UInt8) (h : 128 ≤ b.toNat) : 128 ≤ (Lib.decodeLastL (l ++ [b])).1 := by
  unfold Lib.decodeLastL
  rw [if_neg (by simp)]
  have e : (l ++ [b]).getD ((l ++ [b]).length - 1) 0 = b := by simp
  rw [e, if_neg (by omega)]
  simp only
  have hst := Lib.lastStart_lt (l ++ [b]) (by simp)
  split
  · rename_i hw
    unfold Lib.decodeL at hw ⊢
    obtain ⟨m, hm⟩ : ∃ m, m = (l ++ [b]).drop (Lib.lastStart (l ++ [b])) := ⟨_, rfl⟩
    have hml : m.length = (l ++ [b]).length - Lib.lastStart (l ++ [b]) := by rw [hm, List.length_drop]
    rw [← hm] at hw ⊢
    have hp : 0 < (⟨m.toArray⟩ : ByteArray).size := by show 0 < m.toArray.size; simp; omega
    by_cases ha : ((⟨m.toArray⟩ : ByteArray)[0]'hp).toNat < 128
    · rw [decode_ascii _ 0 hp ha] at hw
      simp only at hw
      have hl : Lib.lastStart (l ++ [b]) = l.length := by simp at hw; omega
      rw [hl] at hm
      simp at hm
      subst hm
      have : ((⟨[b].toArray⟩ : ByteArray)[0]'hp) = b := rfl
      rw [this] at ha
      omega
    · exact (decode_high _ 0 hp (by omega)).1
  · decide

theorem trimRight_snoc_in (l cs : List UInt8) (b : UInt8) (h : cs.contains b = true) : Lib.trimRightS (l ++ [b]) cs = Lib.trimRightS l cs := by
  unfold Lib.trimRightS
  rw [List.reverse_append, List.reverse_singleton, List.singleton_append, List.dropWhile_cons, if_pos h]
theorem trimRight_snoc_out (l cs : List UInt8) (b : UInt8) (h : cs.contains b = false) : Lib.trimRightS (l ++ [b]) cs = l ++ [b] := by
  unfold Lib.trimRightS
  rw [List.reverse_append, List.reverse_singleton, List.singleton_append, List.dropWhile_cons, if_neg (by rw [h]; simp)]
  simp

theorem bytes_snoc (t : ByteArray) (h : 0 < t.size) : ∃ l b, t.data.toList = l ++ [b] ∧ l.length = t.size - 1 := by
  have hl : t.data.toList.length = t.size := (Lib.size_eq t).symm
  have hne : t.data.toList ≠ [] := fun e => by rw [e] at hl; simp at hl; omega
  exact ⟨t.data.toList.dropLast, t.data.toList.getLast hne, (List.dropLast_concat_getLast hne).symm, by rw [List.length_dropLast, hl]⟩
theorem extract_front (t : ByteArray) (l : List UInt8) (b : UInt8) (h : t.data.toList = l ++ [b]) : (t.extract 0 (t.size - 1)).data.toList = l := by
  have hl : t.data.toList.length = t.size := (Lib.size_eq t).symm
  rw [Lib.extract_data, h]
  rw [h] at hl
  simp at hl
  rw [show t.size - 1 - 0 = l.length from by omega]
  simp

theorem bytes_eq {t : ByteArray} {l : List UInt8} (h : t.data.toList = l) : t = ⟨l.toArray⟩ := by
  subst h
  rfl

set_option maxHeartbeats 1000000 in
theorem cutRight_any (s set : ByteArray) (w : World) (hT : Tabs w) (hs : s.size ≤ 9223372036854775807) (hA : Asc set.data.toList) :
    Calls Tryd.prog 76 #[.string s, .string set] w fun e w' => e = .returned (.string ⟨(Lib.trimRightS s.data.toList set.data.toList).toArray⟩) ∧ Below w.heap.size w w' := by
  have HA := Aside0.mk hA
  have HT := Aside0.mk hT
  have hnil : Lib.trimRightS ([] : List UInt8) set.data.toList = [] := rfl
  have HNil := Aside0.mk hnil
  clear hA hT hnil
  go_enter Tryd.func76, Tryd.ntmps76
  go_wp2
  go_loopg [0] s.size (fun g v wx => ∃ t : ByteArray, v = .string t ∧ t.size = g ∧ t.size ≤ 9223372036854775807 ∧ Below w.heap.size w wx ∧ Aside0 (Lib.trimRightS t.data.toList set.data.toList = Lib.trimRightS s.data.toList set.data.toList))
  case atStart => exact ⟨s, rfl, rfl, hs, Below.refl _ _, ⟨rfl⟩⟩
  case round =>
    obtain ⟨t, rfl, hg, ht, HB, HN⟩ := hrel
    cases gk with
    | zero =>
      have hz : decide ((0 : Int) < (t.size : Int)) = false := decide_eq_false (by omega)
      have hgt : ¬ ((0 : Int) < (t.size : Int)) := by omega
      go_wp2
      go_ret
      refine ⟨?_, HB⟩
      rw [← HN.out]
      have e : t.data.toList = [] := List.eq_nil_of_length_eq_zero (by rw [← Lib.size_eq]; exact hg)
      have e2 := bytes_eq e
      rw [e, HNil.out, ← e2]
      rfl
    | succ g =>
      obtain ⟨l, b, hl, hll⟩ := bytes_snoc t (by omega)
      have hz : (0 : Int) < (t.size : Int) := by omega
      have HL := Aside0.mk hl
      clear hl
      go_wp2_with fail
      refine (Tryd.utf8_DecodeLastRuneInString t wr ht (tabs_at HT.out HB)).mono ?_
      rintro e W1 ⟨rfl, hb1⟩
      have HB1 := below_then HB HB.size hb1
      clear hb1
      obtain ⟨c, hc⟩ : ∃ c : Int, c = ((Lib.decodeLastL t.data.toList).1 : Int) := ⟨_, rfl⟩
      obtain ⟨n, hn⟩ : ∃ n : Int, n = ((Lib.decodeLastL t.data.toList).2 : Int) := ⟨_, rfl⟩
      rw [← hc, ← hn]
      have HC := Aside0.mk hc
      have HNn := Aside0.mk hn
      clear hc hn
      have HG := Aside0.mk hg
      clear hg
      go_wp2
      go_loopg [7] set.size (fun gi v wy => ∃ (j : Nat) (q : Bool), j + gi = set.size ∧ v = .bool q ∧ Aside0 (q = hasR (set.data.toList.take j) c) ∧ wy = W1.iter set j)
      case atStart => exact ⟨0, false, by omega, rfl, ⟨rfl⟩, rfl⟩
      case round =>
        obtain ⟨j, q, hj, rfl, HV, rfl⟩ := hrel
        cases gk with
        | zero =>
          have hjp : ¬ j < set.size := by omega
          have hnxj := fun ty => run_next_end (P := Tryd.prog) W1 set j ty hjp
          have HB2 : Below w.heap.size w (W1.iter set j) := HB1.alloc HB1.size _
          cases q with
          | false =>
            have hno : hasR set.data.toList c = false := by
              rw [HV.out, List.take_of_length_le (by rw [← Lib.size_eq]; omega)]
            have hfin : Lib.trimRightS t.data.toList set.data.toList = t.data.toList := by
              rw [HL.out]
              refine trimRight_snoc_out l _ b ?_
              cases hcon : set.data.toList.contains b with
              | false => rfl
              | true =>
                have ha := HA.out _ (List.contains_iff_mem.1 hcon)
                rw [HC.out, HL.out, last_low l b ha, hasR_byte] at hno
                rw [hno] at hcon
                cases hcon
            have HF := Aside0.mk hfin
            clear hno hfin
            go_wp2
            go_ret
            refine ⟨?_, HB2⟩
            rw [← HN.out, HF.out, ← bytes_eq (t := t) rfl]
            rfl
          | true =>
            have hyes : hasR set.data.toList c = true := by
              rw [HV.out, List.take_of_length_le (by rw [← Lib.size_eq]; omega)]
            have ha : b.toNat < 128 := by
              by_cases h : b.toNat < 128
              · exact h
              · have h1 := last_high l b (by omega)
                rw [hasR_high _ HA.out c (by rw [HC.out, HL.out]; omega)] at hyes
                cases hyes
            have hd := last_low l b ha
            rw [HC.out, HL.out, hd, hasR_byte] at hyes
            obtain rfl : n = 1 := by rw [HNn.out, HL.out, hd]; rfl
            have HY := Aside0.mk hyes
            clear hyes hd ha
            have hlo : (0 : Int) ≤ (t.size : Int) - 1 := by omega
            have hhi : (t.size : Int) - 1 ≤ (t.size : Int) := by omega
            go_wp2
            go_roundg g
            case measure => have := HG.out; omega
            case rel =>
              have hsz := HG.out
              refine ⟨t.extract 0 (t.size - 1), by first | rfl | simp, ?_, ?_, HB2, ⟨?_⟩⟩
              · rw [Lib.size_eq, extract_front t l b HL.out, hll]; omega
              · rw [Lib.size_eq, extract_front t l b HL.out, hll]; omega
              · rw [extract_front t l b HL.out, ← HN.out, HL.out, trimRight_snoc_in l _ b HY.out]
        | succ gj =>
          have hjp : j < set.size := by omega
          have hnxj := fun ty => run_next_ascii (P := Tryd.prog) W1 set j ty hjp (asc_at HA.out j hjp)
          have hv1 := hasR_take set j hjp c
          obtain ⟨x, hx⟩ : ∃ x : Int, x = ((set[j]'hjp).toNat : Int) := ⟨_, rfl⟩
          rw [← hx] at hnxj hv1
          have HV1 := Aside0.mk hv1
          clear hx hv1
          cases q with
          | false =>
            by_cases hcx : c = x
            · have hcb : (c == x) = true := by simpa using hcx
              go_wp2
              go_roundg gj
              case measure => omega
              case rel => exact ⟨j + 1, true, by omega, rfl, ⟨by rw [HV1.out, ← HV.out]; simp [hcx]⟩, rfl⟩
            · have hcb : (c == x) = false := by simpa using hcx
              go_wp2
              go_roundg gj
              case measure => omega
              case rel => exact ⟨j + 1, false, by omega, rfl, ⟨by rw [HV1.out, ← HV.out]; simp [hcx]⟩, rfl⟩
          | true =>
            go_wp2
            go_roundg gj
            case measure => omega
            case rel => exact ⟨j + 1, true, by omega, rfl, ⟨by rw [HV1.out, ← HV.out]; simp⟩, rfl⟩


theorem trims_nil (l cs : List UInt8) : Lib.trimRightS (Lib.trimLeftS l cs) cs = [] ↔ ∀ c ∈ l, cs.contains c = true := by
  unfold Lib.trimRightS Lib.trimLeftS
  rw [List.reverse_eq_nil_iff, Plain.dropWhile_nil_iff]
  constructor
  · intro h
    by_cases h0 : l.dropWhile (cs.contains ·) = []
    · exact (Plain.dropWhile_nil_iff l).1 h0
    · cases hd : l.dropWhile (cs.contains ·) with
      | nil => exact absurd hd h0
      | cons a r =>
        have h1 := Plain.dropWhile_head (p := (cs.contains ·)) l a (by rw [hd]; rfl)
        have h2 := h a (by rw [hd]; simp)
        rw [h1] at h2
        cases h2
  · intro h c hc
    exact h c (Plain.dropWhile_mem _ _ (List.mem_reverse.1 hc))

def onlyB (l cs : List UInt8) : Bool := l.all fun c => cs.contains c
theorem only_nil (l cs : List UInt8) : (Lib.trimRightS (Lib.trimLeftS l cs) cs).isEmpty = onlyB l cs := by
  rw [Bool.eq_iff_iff, List.isEmpty_iff, trims_nil]
  simp [onlyB]

set_option maxHeartbeats 1000000 in
theorem only_any (s set : ByteArray) (w : World) (hT : Tabs w) (hs : s.size ≤ 9223372036854775807) (hA : Asc set.data.toList) :
    Calls Tryd.prog 56 #[.string s, .string set] w fun e w' => e = .returned (.bool (onlyB s.data.toList set.data.toList)) ∧ Below w.heap.size w w' := by
  have HA := Aside0.mk hA
  have HT := Aside0.mk hT
  clear hA hT
  have HE := Aside0.mk (only_nil s.data.toList set.data.toList)
  have hl : (⟨(Lib.trimLeftS s.data.toList set.data.toList).toArray⟩ : ByteArray).size ≤ 9223372036854775807 := by
    rw [Lib.size_mk]
    refine Nat.le_trans (Plain.dropWhile_length (p := (set.data.toList.contains ·)) s.data.toList) ?_
    rw [← Lib.size_eq]; exact hs
  have HL := Aside0.mk hl
  clear hl
  go_enter Tryd.func56, Tryd.ntmps56
  go_wp2_with fail
  refine (cutLeft_any s set w hs HA.out).mono ?_
  rintro e W1 ⟨rfl, hb1⟩
  go_wp2_with fail
  refine (cutRight_any _ set W1 (tabs_at HT.out hb1) HL.out HA.out).mono ?_
  rintro e W2 ⟨rfl, hb2⟩
  have HB := below_then hb1 hb1.size hb2
  clear hb1 hb2
  rw [show (⟨(Lib.trimLeftS s.data.toList set.data.toList).toArray⟩ : ByteArray).data.toList = Lib.trimLeftS s.data.toList set.data.toList from rfl]
  obtain ⟨r, hr⟩ : ∃ r, r = Lib.trimRightS (Lib.trimLeftS s.data.toList set.data.toList) set.data.toList := ⟨_, rfl⟩
  have he := HE.out
  rw [← hr] at he ⊢
  have HR := Aside0.mk he
  clear hr he HE
  cases r with
  | nil =>
    go_wp2
    go_ret
    refine ⟨?_, HB⟩
    rw [← HR.out]
    rfl
  | cons a r =>
    go_wp2
    go_ret
    refine ⟨?_, HB⟩
    rw [← HR.out]
    rfl

theorem asc_of_all {l : List UInt8} (h : l.all (fun b => decide (b.toNat < 128)) = true) : Asc l := fun b hb => of_decide_eq_true (List.all_eq_true.1 h b hb)
theorem all_tok (l cs : List UInt8) (h : (List.range 256).all (fun n => (cs.contains (UInt8.ofNat n) == Plain.isTok (UInt8.ofNat n))) = true) : onlyB l cs = l.all Plain.isTok := by
  unfold onlyB
  congr 1
  funext c
  have := Plain.all_bytes (p := fun c => cs.contains c == Plain.isTok c) h c
  simpa using this

set_option maxHeartbeats 1000000 in
theorem name_any (s : ByteArray) (w : World) (hT : Tabs w) (hs : s.size ≤ 9223372036854775807) :
    Calls Tryd.prog 49 #[.string s] w fun e w' => e = .returned (.bool (Plain.nameB s.data.toList)) ∧ Below w.heap.size w w' := by
  have HT := Aside0.mk hT
  clear hT
  by_cases h0 : s.data.toList = []
  · have he : s.toList.isEmpty = true := by rw [Lib.toList_data, h0]; rfl
    have hn : Plain.nameB s.data.toList = false := by rw [h0]; rfl
    rw [hn]
    clear hn h0
    go_enter Tryd.func49, Tryd.ntmps49
    go_wp2_with fail
    go_ret
    exact ⟨rfl, Below.refl _ _⟩
  · have he : s.toList.isEmpty = false := by rw [Lib.toList_data]; simpa using h0
    have hn : Plain.nameB s.data.toList = s.data.toList.all Plain.isTok := by
      unfold Plain.nameB
      cases h : s.data.toList with
      | nil => exact absurd h h0
      | cons a r => rfl
    have HN := Aside0.mk hn
    clear hn h0
    go_enter Tryd.func49, Tryd.ntmps49
    go_wp2_with fail
    refine (only_any s _ w HT.out hs ?_).mono ?_
    · exact asc_of_all (by decide +kernel)
    rintro e W1 ⟨rfl, hb1⟩
    rw [all_tok _ _ (by decide +kernel), ← HN.out]
    go_wp2
    go_ret
    exact ⟨rfl, hb1⟩
end Go.Proofs.YtikhboebmmmopaaDoor.Ext
