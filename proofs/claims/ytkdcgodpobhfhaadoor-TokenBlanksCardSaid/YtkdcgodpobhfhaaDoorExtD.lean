/-
  The library functions strings.IndexRune, IndexAny and ContainsAny, asked for the bytes 0, 10 and 13, tell whether a text has one of them, of any text. Conditions: sizes that an int holds.
-/
import Derived.Test.YtkdcgodpobhfhaaDoorExtC
import Derived.Laws.Runes
import Derived.WalkMore
import Derived.Deep.QuietTactic
import Derived.BigQuiet
import Derived.Lib.RuneCount
namespace Go.Proofs.YtkdcgodpobhfhaaDoor.Ext
open Go.RowKit Go.Proofs.YtkdcgodpobhfhaaDoorW.PrintWords


theorem none_of_high (l : List UInt8) (x : Int) (h0 : 128 ≤ x) (h1 : x ≤ 255) (hl : Asc l) : Lib.indexByte l x.toNat.toUInt8 = -1 := by
  induction l with
  | nil => rfl
  | cons b l ih =>
    have hb := hl b (by simp)
    have hc : (b == x.toNat.toUInt8) = false := by
      rw [beq_eq_false_iff_ne]
      intro h
      have h1 := congrArg UInt8.toNat h
      have h2 : x.toNat.toUInt8.toNat = x.toNat := by
        show (UInt8.ofNat x.toNat).toNat = _
        rw [UInt8.toNat_ofNat']
        omega
      rw [h2] at h1
      omega
    simp [Lib.indexByte, hc, ih (fun c h => hl c (by simp [h]))]

theorem quiet_add_same {P : Program} {f : FuncId} {args : Array Value} {w : World} {a n : Nat} {v : Value}
    (h : Calls P f args (w.drewN (a + n)) fun e w' => e = .returned v ∧ w' = w.drewN (a + n)) :
    Calls P f args (w.drewN (a + n)) fun e w'' => e = .returned v ∧ ∃ m, w'' = w.drewN (a + m) :=
  h.mono fun _ _ ⟨he, hm⟩ => ⟨he, n, hm⟩

set_option maxHeartbeats 1000000 in
set_option maxRecDepth 100000 in
theorem indexRune_err (w : World) :
    Calls Tryd.prog 52 #[.string ⟨#[0, 10, 13]⟩, .int .i32 65533] w fun e w' => (∃ n : Int, e = .returned (.int .i64 n) ∧ n < 0) ∧ Below w.heap.size w w' := by
  go_enter Tryd.func52, Tryd.ntmps52
  go_wp2_with fail
  go_loopg [] 3 (fun gk wx => ∃ j : Nat, j + gk = 3 ∧ wx = w.iter ⟨#[0, 10, 13]⟩ j)
  case atStart => exact ⟨0, rfl, rfl⟩
  case round =>
    obtain ⟨j, hj, rfl⟩ := hrel
    cases gk with
    | zero =>
      obtain rfl : j = 3 := by omega
      clear hj
      have hnx := fun ty => run_next_end (P := Tryd.prog) w ⟨#[0, 10, 13]⟩ 3 ty (by decide)
      go_wp2
      go_ret
      exact ⟨⟨-1, rfl, by omega⟩, (Below.refl _ _).alloc (Nat.le_refl _) _⟩
    | succ gk =>
      have hjp : j < (⟨#[0, 10, 13]⟩ : ByteArray).size := by show j < 3; omega
      have hlow : ((⟨#[0, 10, 13]⟩ : ByteArray)[j]'hjp).toNat < 128 := asc_at (s := ⟨#[0, 10, 13]⟩) (asc_of_all (by decide)) j hjp
      have hnx := fun ty => run_next_ascii (P := Tryd.prog) w ⟨#[0, 10, 13]⟩ j ty hjp hlow
      obtain ⟨x, hx⟩ : ∃ x : Int, x = (((⟨#[0, 10, 13]⟩ : ByteArray)[j]'hjp).toNat : Int) := ⟨_, rfl⟩
      rw [← hx] at hnx
      have hxn : (x == 65533) = false := beq_eq_false_iff_ne.2 (by omega)
      clear hx hlow
      have HJ := Aside0.mk hj
      clear hj
      go_wp2
      go_roundg gk
      case measure => omega
      case rel => exact ⟨j + 1, by have := HJ.out; omega, rfl⟩
set_option maxHeartbeats 1000000 in
set_option maxRecDepth 100000 in
theorem indexRune_bad (r : Int) (w : World) (h : 128 ≤ r) (hne : (r == 65533) = false) (hv : Lib.validRune r = false) :
    Calls Tryd.prog 52 #[.string ⟨#[0, 10, 13]⟩, .int .i32 r] w fun e w' => (∃ n : Int, e = .returned (.int .i64 n) ∧ n < 0) ∧ Below w.heap.size w w' := by
  go_enter Tryd.func52, Tryd.ntmps52
  go_wp2_with fail
  refine (Tryd.utf8_ValidRune r w).mono ?_
  rintro e W1 ⟨rfl, hw⟩
  subst hw
  rw [hv]
  go_wp2
  go_ret
  exact ⟨⟨-1, rfl, by omega⟩, Below.refl _ _⟩
set_option maxHeartbeats 1000000 in
set_option maxRecDepth 100000 in
theorem indexRune_good (r : Int) (w : World) (h : 128 ≤ r) (hne : (r == 65533) = false) (hv : Lib.validRune r = true) :
    Calls Tryd.prog 52 #[.string ⟨#[0, 10, 13]⟩, .int .i32 r] w fun e w' => (∃ n : Int, e = .returned (.int .i64 n) ∧ n < 0) ∧ Below w.heap.size w w' := by
  go_enter Tryd.func52, Tryd.ntmps52
  go_wp2_with fail
  refine (Tryd.utf8_ValidRune r w).mono ?_
  rintro e W1 ⟨rfl, hw⟩
  subst hw
  rw [hv]
  obtain ⟨h2, h4, hl⟩ := encode_facts r (by
    have := hv
    unfold Lib.validRune at this
    unfold Utf8.valid
    simp at this ⊢
    omega) h
  have hlt : (Utf8.encode r).size - 1 < (Utf8.encode r).size := by omega
  have hx := hl hlt
  obtain ⟨x, hxx⟩ : ∃ x : Int, x = (((Utf8.encode r)[(Utf8.encode r).size - 1]'hlt).toNat : Int) := ⟨_, rfl⟩
  have hxr : ∀ h : (Utf8.encode r).size - 1 < (Utf8.encode r).size, (((Utf8.encode r)[(Utf8.encode r).size - 1]'h).toNat : Int) = x := fun _ => hxx.symm
  have hx128 : 128 ≤ x := by omega
  have hx255 : x ≤ 255 := by have := UInt8.toNat_lt ((Utf8.encode r)[(Utf8.encode r).size - 1]'hlt); omega
  clear hx hxx hl hlt
  go_wp2_with fail
  go_step3
  go_wp2_with fail
  go_loopg [9] 1 (fun gk v wx => gk = 1 ∧ v = .int .i64 (((Utf8.encode r).size : Int) - 1) ∧ wx = W1)
  case atStart => exact ⟨rfl, rfl, rfl⟩
  case round =>
    obtain ⟨rfl, rfl, rfl⟩ := hrel
    by_cases hbig : (Utf8.encode r).size = 4
    · have hge : ¬ (((Utf8.encode r).size : Int) - 1 < 3) := by omega
      have HBG := Aside0.mk hbig
      clear hbig
      go_wp2_with fail
      go_ret
      exact ⟨⟨-1, rfl, by omega⟩, Below.refl _ _⟩
    · have hcases : (Utf8.encode r).size = 2 ∨ (Utf8.encode r).size = 3 := by omega
      clear hbig h2 h4
      rcases hcases with hs | hs
      · have hx1 : ∀ h : 1 < (Utf8.encode r).size, (((Utf8.encode r)[1]'h).toNat : Int) = x := by
          intro h
          have := hxr (by omega)
          simpa [hs] using this
        clear hxr
        go_wp2_with fail
        go_step3
        go_wp2_with fail
        have hb1 : ∀ h : 1 < (⟨#[0, 10, 13]⟩ : ByteArray).size, (((⟨#[0, 10, 13]⟩ : ByteArray)[1]'h).toNat : Int) = 10 := fun _ => rfl
        have hx10 : ((10 : Int) != x) = true := bne_iff_ne.2 (by omega)
        go_quiet (fail)
        clear hb1 hx10
        go_wp2_with fail
        have hw : IntKind.i64.wrap ((1 : Int) + 1) = 2 := by decide
        have hsl : ∀ w : World, (Instr.slice 9 (.string ⟨#[0, 10, 13]⟩) (some (.int .i64 2)) none none).run Tryd.prog w = .ok (.string ⟨#[13]⟩) w := fun w => by kernel_rfl
        go_quiet ((go_at_call 48; exact quiet_add_same (Tryd.strings_IndexByte _ _ _)))
        rw [show (⟨#[13]⟩ : ByteArray).data.toList = [13] from rfl, none_of_high [13] x hx128 hx255 (asc_of_all (by decide))]
        clear hsl hw
        go_wp2_with fail
        rw [Exit.noGoto_ret]
        go_wp2_with fail
        rw [Exit.noGoto_ret]
        go_wp2_with fail
        go_ret
        exact ⟨⟨-1, rfl, by omega⟩, pw_below_drewN (Below.refl _ _) _⟩
      · have hx1 : ∀ h : 2 < (Utf8.encode r).size, (((Utf8.encode r)[2]'h).toNat : Int) = x := by
          intro h
          have := hxr (by omega)
          simpa [hs] using this
        clear hxr
        go_wp2_with fail
        go_step3
        go_wp2_with fail
        have hb1 : ∀ h : 2 < (⟨#[0, 10, 13]⟩ : ByteArray).size, (((⟨#[0, 10, 13]⟩ : ByteArray)[2]'h).toNat : Int) = 13 := fun _ => rfl
        have hx10 : ((13 : Int) != x) = true := bne_iff_ne.2 (by omega)
        go_quiet (fail)
        clear hb1 hx10
        go_wp2_with fail
        have hw : IntKind.i64.wrap ((2 : Int) + 1) = 3 := by decide
        have hsl : ∀ w : World, (Instr.slice 9 (.string ⟨#[0, 10, 13]⟩) (some (.int .i64 3)) none none).run Tryd.prog w = .ok (.string ⟨#[]⟩) w := fun w => by kernel_rfl
        go_quiet ((go_at_call 48; exact quiet_add_same (Tryd.strings_IndexByte _ _ _)))
        rw [show (⟨#[]⟩ : ByteArray).data.toList = [] from rfl, none_of_high [] x hx128 hx255 (asc_of_all (by decide))]
        clear hsl hw
        go_wp2_with fail
        rw [Exit.noGoto_ret]
        go_wp2_with fail
        rw [Exit.noGoto_ret]
        go_wp2_with fail
        go_ret
        exact ⟨⟨-1, rfl, by omega⟩, pw_below_drewN (Below.refl _ _) _⟩

theorem indexRune_high (r : Int) (w : World) (h : 128 ≤ r) :
    Calls Tryd.prog 52 #[.string ⟨#[0, 10, 13]⟩, .int .i32 r] w fun e w' => (∃ n : Int, e = .returned (.int .i64 n) ∧ n < 0) ∧ Below w.heap.size w w' := by
  by_cases he : r = 65533
  · subst he
    exact indexRune_err w
  · cases hv : Lib.validRune r with
    | false => exact indexRune_bad r w h (by simpa using he) hv
    | true => exact indexRune_good r w h (by simpa using he) hv


def hasBad (s : ByteArray) : Bool := s.data.toList.any Plain.isBad
theorem any_take (l : List UInt8) (p : UInt8 → Bool) (i : Nat) (h : i < l.length) : (l.take (i + 1)).any p = ((l.take i).any p || p l[i]) := by
  rw [List.take_succ_eq_append_getElem h, List.any_append]
  simp only [List.any_cons, List.any_nil, Bool.or_false]
theorem index_low (c : UInt8) : decide (0 ≤ Lib.indexByte [0, 10, 13] c) = Plain.isBad c := by
  have := Plain.all_bytes (p := fun c => decide (0 ≤ Lib.indexByte [0, 10, 13] c) == Plain.isBad c) (by decide +kernel) c
  simpa using this
theorem contains_low (c : UInt8) : [0, 10, 13].contains c = Plain.isBad c := by
  have := Plain.all_bytes (p := fun c => [0, 10, 13].contains c == Plain.isBad c) (by decide +kernel) c
  simpa using this
theorem bad_high (c : UInt8) (h : 128 ≤ c.toNat) : Plain.isBad c = false := by
  have := Plain.all_bytes (p := fun c => decide (c.toNat < 128) || !Plain.isBad c) (by decide +kernel) c
  simp at this
  rcases this with h1 | h1
  · omega
  · exact h1

/-- behind a byte of a rune's encoding: only bytes beyond ASCII -/
theorem decode_inner (s : ByteArray) (pos : Nat) (k : Nat) (h0 : 0 < k) (h : k < (Utf8.decode s pos).2) : pos + k < s.size ∧ 128 ≤ (s.get! (pos + k)).toNat := by
  unfold Utf8.decode at h
  simp only at h
  have c : ∀ j, (decide (pos + j < s.size) && (s.get! (pos + j)).toNat / 64 == 2) = true → pos + j < s.size ∧ 128 ≤ (s.get! (pos + j)).toNat := by
    intro j hj
    simp at hj
    omega
  by_cases b0 : (s.get! (pos + 0)).toNat < 128
  · rw [if_pos b0] at h
    simp at h
    omega
  · rw [if_neg b0] at h
    by_cases b1 : ((s.get! (pos + 0)).toNat / 32 == 6 && (decide (pos + 1 < s.size) && (s.get! (pos + 1)).toNat / 64 == 2)) = true
    · rw [if_pos b1] at h
      rw [Bool.and_eq_true] at b1
      have : k < 2 := by
        split at h <;> simp at h <;> omega
      obtain rfl : k = 1 := by omega
      exact c 1 b1.2
    · rw [if_neg b1] at h
      by_cases b2 : ((s.get! (pos + 0)).toNat / 16 == 14 && (decide (pos + 1 < s.size) && (s.get! (pos + 1)).toNat / 64 == 2) && (decide (pos + 2 < s.size) && (s.get! (pos + 2)).toNat / 64 == 2)) = true
      · rw [if_pos b2] at h
        rw [Bool.and_eq_true, Bool.and_eq_true] at b2
        have : k < 3 := by
          split at h <;> simp at h <;> omega
        rcases (show k = 1 ∨ k = 2 from by omega) with rfl | rfl
        · exact c 1 b2.1.2
        · exact c 2 b2.2
      · rw [if_neg b2] at h
        by_cases b3 : ((s.get! (pos + 0)).toNat / 8 == 30 && (decide (pos + 1 < s.size) && (s.get! (pos + 1)).toNat / 64 == 2) && (decide (pos + 2 < s.size) && (s.get! (pos + 2)).toNat / 64 == 2) && (decide (pos + 3 < s.size) && (s.get! (pos + 3)).toNat / 64 == 2)) = true
        · rw [if_pos b3] at h
          rw [Bool.and_eq_true, Bool.and_eq_true, Bool.and_eq_true] at b3
          have : k < 4 := by
            split at h <;> simp at h <;> omega
          rcases (show k = 1 ∨ k = 2 ∨ k = 3 from by omega) with rfl | rfl | rfl
          · exact c 1 b3.1.1.2
          · exact c 2 b3.1.2
          · exact c 3 b3.2
        · rw [if_neg b3] at h
          simp at h
          omega
theorem get_list (s : ByteArray) (i : Nat) (h : i < s.size) (h' : i < s.data.toList.length) : s.data.toList[i] = s.get! i := by
  have : s.get! i = s[i]'h := by
    show s.get! i = _
    simp [ByteArray.get!, getElem!_pos, h]
    rfl
  rw [this]
  rfl
theorem decode_width_le (s : ByteArray) (pos : Nat) (h : pos < s.size) : pos + (Utf8.decode s pos).2 ≤ s.size := by
  by_cases h1 : (Utf8.decode s pos).2 ≤ 1
  · omega
  · have := (decode_inner s pos ((Utf8.decode s pos).2 - 1) (by omega) (by omega)).1
    omega
/-- a rune's whole encoding beyond ASCII holds no bad byte -/
theorem no_bad_step (s : ByteArray) (pos : Nat) (h : pos < s.size) (hh : 128 ≤ (s[pos]'h).toNat) (hn : (s.data.toList.take pos).any Plain.isBad = false) :
    ∀ k, k ≤ (Utf8.decode s pos).2 → (s.data.toList.take (pos + k)).any Plain.isBad = false := by
  have hl : s.data.toList.length = s.size := (Lib.size_eq s).symm
  intro k
  induction k with
  | zero => intro _; exact hn
  | succ k ih =>
    intro hk
    have hw := decode_width_le s pos h
    rw [← Nat.add_assoc, any_take _ _ (pos + k) (by omega), ih (by omega), Bool.false_or]
    apply bad_high
    by_cases h0 : k = 0
    · subst h0
      exact hh
    · rw [get_list s (pos + k) (by omega) (by omega)]
      exact (decode_inner s pos k (by omega) (by omega)).2

set_option maxHeartbeats 2000000 in
set_option maxRecDepth 100000 in
theorem indexAny_short (s : ByteArray) (w : World) (h8 : s.size ≤ 8) :
    Calls Tryd.prog 40 #[.string s, .string ⟨#[0, 10, 13]⟩] w fun e w' => (∃ n : Int, e = .returned (.int .i64 n) ∧ decide (0 ≤ n) = hasBad s) ∧ Below w.heap.size w w' := by
  have h8z : decide ((8 : Int) < (s.size : Int)) = false := decide_eq_false (by omega)
  have hl : s.data.toList.length = s.size := (Lib.size_eq s).symm
  have HL := Aside0.mk hl
  clear hl
  go_enter Tryd.func40, Tryd.ntmps40
  go_wp2_with fail
  refine (Tryd.strings_shouldUseASCIISet _ w).mono ?_
  rintro e w' ⟨rfl, hw⟩
  rw [hw, h8z]
  clear hw h8z
  go_wp2_with fail
  go_loopg [] s.size (fun gk wx => ∃ pos, pos ≤ s.size ∧ s.size ≤ pos + gk ∧ Aside0 (wx.heap[w.heap.size]? = some (.stringIter s pos)) ∧ Below w.heap.size w wx ∧ Aside0 ((s.data.toList.take pos).any Plain.isBad = false))
  case atStart => exact ⟨0, by omega, by omega, ⟨World.iter_heap _ _ _⟩, (Below.refl _ _).alloc (Nat.le_refl _) _, ⟨rfl⟩⟩
  case round =>
    obtain ⟨pos, hps, hg, HK, HB, HN⟩ := hrel
    by_cases hp : pos < s.size
    · cases gk with
      | zero => omega
      | succ gk =>
        have hnx := fun ty => Lib.run_next_any_at (P := Tryd.prog) wr w.heap.size s pos ty HK.out hp
        have HK1 := Aside0.mk (Lib.iterAt_heap wr w.heap.size s pos (pos + (Utf8.decode s pos).2) HK.out)
        have HB1 := Lib.below_iterAt HB (Nat.le_refl _) s (pos + (Utf8.decode s pos).2)
        generalize wr.iterAt w.heap.size s (pos + (Utf8.decode s pos).2) = W1 at hnx HK1 HB1
        have hwle := decode_width_le s pos hp
        have hwpos : 1 ≤ (Utf8.decode s pos).2 := Lib.decode_width_pos s pos hp
        by_cases ha : (s[pos]'hp).toNat < 128
        · have hd := decode_ascii s pos hp ha
          rw [hd] at hnx HK1 hwle hwpos
          obtain ⟨c, hc⟩ : ∃ c : UInt8, c = s[pos]'hp := ⟨_, rfl⟩
          rw [← hc] at hnx ha
          have hbd : (s.data.toList.take (pos + 1)).any Plain.isBad = Plain.isBad c := by
            rw [any_take _ _ pos (by rw [HL.out]; exact hp), HN.out, Bool.false_or, hc]
            rfl
          have hic := index_low c
          have HBD := Aside0.mk hbd
          have hmem : c ∈ s.data.toList := by
            rw [hc]
            exact List.mem_of_getElem? (Lib.data_getElem? s pos hp)
          have HMEM := Aside0.mk hmem
          clear hd hc hbd hmem
          go_wp2_with fail
          refine (Tryd.strings_IndexRune_ascii _ _ _ (by omega) (by omega)).mono ?_
          rintro e w' ⟨rfl, hw⟩
          rw [hw]
          clear hw
          rw [show ((c.toNat : Int)).toNat.toUInt8 = c from by simp, show (⟨#[0, 10, 13]⟩ : ByteArray).data.toList = [0, 10, 13] from rfl]
          obtain ⟨n, hn⟩ : ∃ n, n = Lib.indexByte [0, 10, 13] c := ⟨_, rfl⟩
          rw [← hn] at hic ⊢
          clear hn
          by_cases h0 : 0 ≤ n
          · have hicb : Plain.isBad c = true := by rw [← hic]; exact decide_eq_true h0
            have HIC := Aside0.mk hicb
            clear hic hicb
            go_wp2_with fail
            go_ret
            refine ⟨⟨(pos : Int), rfl, ?_⟩, HB1⟩
            rw [decide_eq_true (by omega)]
            unfold hasBad
            exact (List.any_eq_true.2 ⟨c, HMEM.out, HIC.out⟩).symm
          · have hicb : Plain.isBad c = false := by rw [← hic]; exact decide_eq_false h0
            have HIC := Aside0.mk hicb
            clear hic hicb
            go_wp2_with fail
            go_roundg gk
            case measure => omega
            case rel => exact ⟨pos + 1, by omega, by omega, HK1, HB1, ⟨by rw [HBD.out, HIC.out]⟩⟩
        · have hst := no_bad_step s pos hp (by omega) HN.out _ (Nat.le_refl _)
          have hch := (decode_high s pos hp (by omega)).1
          obtain ⟨c, hc⟩ : ∃ c : Int, c = ((Utf8.decode s pos).1 : Int) := ⟨_, rfl⟩
          rw [← hc] at hnx
          have hc128 : 128 ≤ c := by omega
          have HST := Aside0.mk hst
          clear hst hc hch
          go_wp2_with fail
          refine (indexRune_high c _ hc128).mono ?_
          rintro e w' ⟨⟨n, rfl, hn⟩, hb⟩
          have HK2 := Aside0.mk ((hb.block w.heap.size (Array.getElem?_eq_some_iff.1 HK1.out).1).trans HK1.out)
          have HB2 := below_then HB1 HB1.size hb
          clear hb
          go_wp2_with fail
          go_roundg gk
          case measure => omega
          case rel => exact ⟨_, hwle, by omega, HK2, HB2, HST⟩
    · obtain rfl : pos = s.size := by omega
      have hnx := fun ty => Lib.run_next_end_at (P := Tryd.prog) wr w.heap.size s s.size ty HK.out hp
      clear hps hg
      have hfin : hasBad s = false := by
        unfold hasBad
        have := HN.out
        rwa [List.take_of_length_le (by rw [HL.out]; exact Nat.le_refl _)] at this
      have HF := Aside0.mk hfin
      clear hfin
      go_wp2_with fail
      go_ret
      exact ⟨⟨-1, rfl, by rw [HF.out]; rfl⟩, HB⟩

set_option maxHeartbeats 2000000 in
set_option maxRecDepth 100000 in
theorem indexAny_long (s : ByteArray) (w : World) (h8 : 8 < s.size) (hs : s.size ≤ 9223372036854775807) :
    Calls Tryd.prog 40 #[.string s, .string ⟨#[0, 10, 13]⟩] w fun e w' => (∃ n : Int, e = .returned (.int .i64 n) ∧ decide (0 ≤ n) = hasBad s) ∧ Below w.heap.size w w' := by
  have hM := Tryd.strings_makeASCIISet (fun w => by kernel_rfl) ⟨#[0, 10, 13]⟩ w (by decide) (fun j b h => asc_of_all (l := [0, 10, 13]) (by decide) b (List.mem_of_getElem? h))
  have h8z : decide ((8 : Int) < (s.size : Int)) = true := decide_eq_true (by omega)
  have hsc : (storeCells ⟨w.heap.size + 1, 0, none⟩ (Lib.setCells [0, 10, 13]).toList 0).run Tryd.prog ((w.alloc (.cells (Lib.setCells [0, 10, 13]) 43)).alloc (.cells (Array.replicate 256 (.bool false)) 43)) = .ok () ((w.alloc (.cells (Lib.setCells [0, 10, 13]) 43)).alloc (.cells (Lib.setCells [0, 10, 13]) 43)) := by
    have := run_storeCells_new (P := Tryd.prog) (w.alloc (.cells (Lib.setCells [0, 10, 13]) 43)) 43 (Array.replicate 256 (.bool false)) (Lib.setCells [0, 10, 13]) (by rw [Lib.setCells_size]; kernel_rfl) (by rw [Lib.setCells_size, Array.size_replicate]) (Lib.setCells_one _)
    simpa using this
  have hsz := Lib.setCells_size [0, 10, 13]
  have hcellAt : ∀ x : UInt8, ((w.alloc (.cells (Lib.setCells [0, 10, 13]) 43)).alloc (.cells (Lib.setCells [0, 10, 13]) 43)).cell? ⟨w.heap.size + 1, x.toNat, none⟩ = some (.bool (Plain.isBad x)) := fun x => by
    rw [World.cell?_alloc_at _ _ _ _ (by simp), Lib.setCells_at, contains_low]
  have HC := Aside0.mk hcellAt
  have hl : s.data.toList.length = s.size := (Lib.size_eq s).symm
  have HL := Aside0.mk hl
  clear hcellAt hl
  have z43 := Tryd.sizeOf43
  go_enter Tryd.func40, Tryd.ntmps40
  go_wp2_with fail
  refine (Tryd.strings_shouldUseASCIISet _ w).mono ?_
  rintro e w' ⟨rfl, hw⟩
  rw [hw, h8z]
  clear hw h8z
  go_wp2_with fail
  refine hM.mono ?_
  rintro e w' ⟨rfl, hw⟩
  rw [hw]
  clear hw
  go_wp2_with fail
  rw [show Tryd.zeroCells43 = Array.replicate 256 (Value.bool false) from by kernel_rfl]
  simp only [Result.andThen, hsc]
  rw [Oper.upon_skip]
  clear hM hsc z43 hsz
  go_wp2_with fail
  go_loopg [8] s.size (fun g s8 wx => ∃ i : Nat, i + g = s.size ∧ s8 = .int .i64 i ∧ wx = ((w.alloc (.cells (Lib.setCells [0, 10, 13]) 43)).alloc (.cells (Lib.setCells [0, 10, 13]) 43)) ∧ Aside0 ((s.data.toList.take i).any Plain.isBad = false))
  case atStart => exact ⟨0, by omega, rfl, rfl, ⟨rfl⟩⟩
  case round =>
    obtain ⟨i, hig, rfl, rfl, HN⟩ := hrel
    have HB : Below w.heap.size w ((w.alloc (.cells (Lib.setCells [0, 10, 13]) 43)).alloc (.cells (Lib.setCells [0, 10, 13]) 43)) := below_alloc (below_alloc (Below.refl _ _) _) _
    cases gk with
    | zero =>
      obtain rfl : i = s.size := by omega
      have hiz : ¬ ((s.size : Int) < (s.size : Int)) := by omega
      have hfin : hasBad s = false := by
        unfold hasBad
        have := HN.out
        rwa [List.take_of_length_le (by rw [HL.out]; exact Nat.le_refl _)] at this
      have HF := Aside0.mk hfin
      clear hfin hig
      go_wp2_with fail
      go_ret
      exact ⟨⟨-1, rfl, by rw [HF.out]; rfl⟩, HB⟩
    | succ g =>
      have hi : i < s.size := by omega
      have hiz : (i : Int) < (s.size : Int) := by omega
      obtain ⟨x, hx⟩ : ∃ x : UInt8, s[i]'hi = x := ⟨_, rfl⟩
      have hmem : x ∈ s.data.toList := by
        rw [← hx]
        exact List.mem_of_getElem? (Lib.data_getElem? s i hi)
      have hbd : (s.data.toList.take (i + 1)).any Plain.isBad = Plain.isBad x := by
        rw [any_take _ _ i (by rw [HL.out]; exact hi), HN.out, Bool.false_or, ← hx]
        rfl
      have HMEM := Aside0.mk hmem
      have HBD := Aside0.mk hbd
      have HI := Aside0.mk hig
      clear hmem hbd hig
      have hcx := HC.out x
      cases hin : Plain.isBad x with
      | false =>
        rw [hin] at hcx
        have HIN := Aside0.mk hin
        clear hin
        go_wp2_with fail
        refine (Tryd.asciiSet_contains _ x _ _ hcx).mono ?_
        rintro e w' ⟨rfl, hw⟩
        rw [hw]
        clear hw
        go_wp2_with fail
        go_roundg g
        case measure => omega
        case rel => exact ⟨i + 1, by have := HI.out; omega, by go_num, rfl, ⟨by rw [HBD.out, HIN.out]⟩⟩
      | true =>
        rw [hin] at hcx
        have HIN := Aside0.mk hin
        clear hin
        go_wp2_with fail
        refine (Tryd.asciiSet_contains _ x _ _ hcx).mono ?_
        rintro e w' ⟨rfl, hw⟩
        rw [hw]
        clear hw
        go_wp2_with fail
        go_ret
        refine ⟨⟨(i : Int), rfl, ?_⟩, HB⟩
        rw [decide_eq_true (by omega)]
        unfold hasBad
        exact (List.any_eq_true.2 ⟨x, HMEM.out, HIN.out⟩).symm

theorem indexAny_any (s : ByteArray) (w : World) (hs : s.size ≤ 9223372036854775807) :
    Calls Tryd.prog 40 #[.string s, .string ⟨#[0, 10, 13]⟩] w fun e w' => (∃ n : Int, e = .returned (.int .i64 n) ∧ decide (0 ≤ n) = hasBad s) ∧ Below w.heap.size w w' := by
  by_cases h : s.size ≤ 8
  · exact indexAny_short s w h
  · exact indexAny_long s w (by omega) hs
set_option maxHeartbeats 1000000 in
theorem containsAny_any (s : ByteArray) (w : World) (hs : s.size ≤ 9223372036854775807) :
    Calls Tryd.prog 28 #[.string s, .string ⟨#[0, 10, 13]⟩] w fun e w' => e = .returned (.bool (hasBad s)) ∧ Below w.heap.size w w' := by
  have HC := Aside0.mk (indexAny_any s w hs)
  go_enter Tryd.func28, Tryd.ntmps28
  go_wp2_with fail
  refine HC.out.mono ?_
  rintro e W1 ⟨⟨n, rfl, hn⟩, hb1⟩
  have HN := Aside0.mk hn
  clear hn HC
  by_cases h0 : 0 ≤ n
  · go_wp2
    go_ret
    refine ⟨?_, hb1⟩
    rw [← HN.out, decide_eq_true h0]
    rfl
  · go_wp2
    go_ret
    refine ⟨?_, hb1⟩
    rw [← HN.out, decide_eq_false (by omega)]
    rfl
end Go.Proofs.YtkdcgodpobhfhaaDoor.Ext
