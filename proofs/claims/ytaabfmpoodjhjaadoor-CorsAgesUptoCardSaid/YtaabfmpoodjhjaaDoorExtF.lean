/-
  CONTRACTS, proved by hand: the function that cors.List hands to slices.DeleteFunc, (cors.leave).folded, field.Number, strings.Join, the statement's own lower. Conditions: sizes; the tables of unicode/utf8 where Tabs stands.
-/
import Derived.Test.YtaabfmpoodjhjaaDoorExtE
import Derived.Test.YtaabfmpoodjhjaaDoorWMore
namespace Go.Proofs.YtaabfmpoodjhjaaDoor.Ext
open Go.RowKit Go.Proofs.YtaabfmpoodjhjaaDoorW.PrintWords Go.Proofs.YtaabfmpoodjhjaaDoorW.PrintMore
attribute [local go_sem] max2_int min2_int max_two min_two   -- for this text's walks alone

set_option maxHeartbeats 1000000 in
theorem list1_any (x : ByteArray) (w : World) (hT : Tabs w) (hx : x.size ≤ 9223372036854775807) :
    Calls Tryd.prog 36 #[.string x] w fun e w' => e = .returned (.bool (!Plain.nameB x.data.toList)) ∧ Below w.heap.size w w' := by
  have HN := Aside0.mk (name_any x w hT hx)
  clear hT
  go_enter Tryd.func36, Tryd.ntmps36
  go_wp2_with fail
  refine HN.out.mono ?_
  rintro e W1 ⟨rfl, hb1⟩
  clear HN
  go_wp2
  go_ret
  exact ⟨rfl, hb1⟩

set_option maxHeartbeats 1000000 in
theorem folded1_any (s x : ByteArray) (a : Addr) (w : World) (hs : s.size ≤ 9223372036854775807) (hx : x.size ≤ 9223372036854775807) (hc : w.cell? a = some (.string s)) :
    Calls Tryd.prog 65 #[.string x, .pointer (some a)] w fun e w' => e = .returned (.bool (Plain.foldB x.data.toList s.data.toList)) ∧ Below w.heap.size w w' := by
  go_enter Tryd.func65, Tryd.ntmps65
  go_wp2_with fail
  refine (fold_any x s w hx hs).mono ?_
  rintro e W1 ⟨rfl, hb1⟩
  clear hc
  go_wp2
  go_ret
  exact ⟨rfl, hb1⟩
def cors_leave_folded.f (l0_0 : List ByteArray) (_a0_1 : Bool) (a1 : ByteArray) : Option Bool := if a1.size ≤ Big ∧ l0_0.all (fun x => decide (x.size ≤ Big)) = true then some (l0_0.any fun x => Plain.foldB x.data.toList a1.data.toList) else none
set_option maxHeartbeats 1000000 in
theorem cors_leave_folded.calls (A0_0 : Option Addr) (c0_0 : Nat) (l0_0 : List ByteArray) (a0_1 : Bool) (a1 : ByteArray) (r : Bool) (w : World) (hr0_0 : Kd.C Kd.string w A0_0 l0_0.length l0_0) (_hc0_0 : l0_0.length ≤ c0_0) (h : cors_leave_folded.f l0_0 a0_1 a1 = some r) :
    Calls Tryd.prog 40 #[.agg #[.slice A0_0 l0_0.length c0_0, .bool a0_1], .string a1] w fun e w' => e = .returned (.bool r) ∧ Below w.heap.size w w' := by
  unfold cors_leave_folded.f at h
  split at h
  · rename_i hs
    obtain ⟨hs1, hs2⟩ := hs
    obtain rfl := Option.some.inj h
    have hz : ∀ x ∈ l0_0, x.size ≤ 9223372036854775807 := fun x hx => of_decide_eq_true (List.all_eq_true.1 hs2 x hx)
    have hs1' : a1.size ≤ 9223372036854775807 := hs1
    have HR := Aside0.mk hr0_0
    have HZ := Aside0.mk hz
    clear hr0_0 hz hs1 hs2 h
    go_enter Tryd.func40, Tryd.ntmps40
    go_wp2_with fail
    have hb0 : Below w.heap.size w ((w.alloc (Obj.cells #[Value.slice A0_0 l0_0.length c0_0, Value.bool a0_1] 58)).alloc (Obj.cells #[Value.string a1] 9)) := below_alloc (below_alloc (Below.refl w.heap.size w) _) _
    have hcx := containsFunc_any 65 #[.pointer (some ⟨w.heap.size + 1, 0, none⟩)] (fun x => x.size ≤ 9223372036854775807) (fun x => Plain.foldB x.data.toList a1.data.toList) (enters_of Tryd.func65 (by kernel_rfl) rfl)
      A0_0 c0_0 l0_0 ((w.alloc (Obj.cells #[Value.slice A0_0 l0_0.length c0_0, Value.bool a0_1] 58)).alloc (Obj.cells #[Value.string a1] 9))
      (fun W x hx hb => folded1_any a1 x ⟨w.heap.size + 1, 0, none⟩ W hs1' hx (pw_cell_below hb (by simp)))
      HZ.out (Kd.C_below HR.out hb0)
    refine hcx.mono ?_
    rintro e W1 ⟨rfl, hb1⟩
    have HB := below_then hb0 hb0.size hb1
    clear hcx
    go_wp2
    go_ret
    exact ⟨rfl, HB⟩
  · cases h

/-! ### field.Number -/
def isDig (c : UInt8) : Bool := 48 ≤ c && c ≤ 57
def numG (l : List UInt8) : Nat := l.foldl (fun n c => 10 * n + (c.toNat - 48)) 0
def numB (l : List UInt8) (most : Int) : Int × Bool := if l = [] ∨ 9 < l.length then (0, false) else if l.all isDig then (if most < (numG l : Int) then most else (numG l : Int), true) else (0, false)
theorem numG_snoc (l : List UInt8) (c : UInt8) : numG (l ++ [c]) = 10 * numG l + (c.toNat - 48) := by
  unfold numG
  rw [List.foldl_append]
  rfl
theorem numG_lt : ∀ (n : Nat) (l : List UInt8), l.length = n → l.all isDig = true → numG l < 10 ^ n
  | 0, l, h, _ => by
    obtain rfl := List.length_eq_zero_iff.1 h
    decide
  | n + 1, l, h, hd => by
    obtain ⟨r, c, rfl⟩ : ∃ r c, l = r ++ [c] := by
      rcases List.eq_nil_or_concat l with rfl | ⟨r, c, hr⟩
      · cases h
      · exact ⟨r, c, by rw [hr, List.concat_eq_append]⟩
    rw [List.length_append, List.length_singleton] at h
    rw [List.all_append, Bool.and_eq_true] at hd
    have h1 := numG_lt n r (by omega) hd.1
    have h2 : isDig c = true := by simpa using hd.2
    have h3 : c.toNat ≤ 57 := by
      simp only [isDig, Bool.and_eq_true, decide_eq_true_eq] at h2
      exact UInt8.le_iff_toNat_le.1 h2.2
    rw [numG_snoc, Nat.pow_succ]
    omega
theorem take_all {p : UInt8 → Bool} (l : List UInt8) (i : Nat) (h : i < l.length) : (l.take (i + 1)).all p = ((l.take i).all p && p l[i]) := by
  rw [List.take_succ_eq_append_getElem h, List.all_append]
  simp
theorem dig_num (c : UInt8) : isDig c = (decide (48 ≤ (c.toNat : Int)) && decide ((c.toNat : Int) ≤ 57)) := by
  have := Plain.all_bytes (p := fun c => isDig c == (decide (48 ≤ (c.toNat : Int)) && decide ((c.toNat : Int) ≤ 57))) (by decide +kernel) c
  simpa using this

set_option maxHeartbeats 2000000 in
theorem number_any (s : ByteArray) (most : Int) (w : World) (hs : s.size ≤ 9223372036854775807) :
    Calls Tryd.prog 32 #[.string s, .int .i64 most] w fun e w' => e = .returned (.tuple #[.int .i64 (numB s.data.toList most).1, .bool (numB s.data.toList most).2]) ∧ Below w.heap.size w w' := by
  have hcv := fun W : World => Lib.run_convert_string_bytes (P := Tryd.prog) W 9 62 5 s Tryd.underlying9 Tryd.underlying62 Tryd.underlying5
  have hl : s.data.toList.length = s.size := (Lib.size_eq s).symm
  by_cases h0 : s.toList = []
  · have hb : (s.toList == []) = true := by rw [h0]; rfl
    have hN : numB s.data.toList most = (0, false) := by
      rw [Lib.toList_data] at h0
      unfold numB
      rw [if_pos (.inl h0)]
    have HN := Aside0.mk hN
    clear hN h0 hl hcv
    go_enter Tryd.func32, Tryd.ntmps32
    go_wp2
    go_ret2
    rw [HN.out]
    exact ⟨rfl, Below.refl _ _⟩
  · have hb : (s.toList == []) = false := beq_eq_false_iff_ne.2 h0
    by_cases h9 : (s.size : Int) > 9
    · have hN : numB s.data.toList most = (0, false) := by
        unfold numB
        rw [if_pos (.inr (by omega))]
      have HN := Aside0.mk hN
      clear hN h0 hl hcv
      go_enter Tryd.func32, Tryd.ntmps32
      go_wp2
      all_goals (try (exfalso; omega))
      go_ret2
      rw [HN.out]
      exact ⟨rfl, Below.refl _ _⟩
    · have hN : numB s.data.toList most = if s.data.toList.all isDig then (if most < (numG s.data.toList : Int) then most else (numG s.data.toList : Int), true) else (0, false) := by
        rw [Lib.toList_data] at h0
        unfold numB
        rw [if_neg (fun e => e.elim h0 (fun e => by omega))]
      have HN := Aside0.mk hN
      have HL := Aside0.mk hl
      clear hN h0 hl
      have h9' : s.size ≤ 9 := by omega
      go_enter Tryd.func32, Tryd.ntmps32
      go_wp2_with fail
      all_goals (try (exfalso; omega))
      have HB0 := below_bytes w s 5
      have HR0 := Aside0.mk (bys_new w s 5)
      obtain ⟨cap, hcap⟩ : ∃ cap, cap = grownCap w s.size 0 5 := ⟨_, rfl⟩
      rw [← hcap]
      generalize Lib.bytesWorld w 5 s = W0 at HB0 HR0
      clear hcap hcv hb h9
      go_loopg [6, 8, 19] s.size (fun g v6 _ v19 wx => ∃ i : Nat, i + g = s.size ∧ v6 = .int .i64 (numG (s.data.toList.take i) : Int) ∧ v19 = .int .i64 i ∧ Aside0 ((s.data.toList.take i).all isDig = true) ∧ Aside0 (Bys wx w.heap.size (ints s.data.toList)) ∧ Below w.heap.size w wx)
      case atStart => exact ⟨0, by omega, rfl, rfl, ⟨rfl⟩, HR0, HB0⟩
      case round =>
        obtain ⟨i, hi, rfl, rfl, HD, HR, HB⟩ := hrel
        have hng := numG_lt (min i s.data.toList.length) _ (List.length_take) HD.out
        have hp10 : 10 ^ (min i s.data.toList.length) ≤ 10 ^ 9 := Nat.pow_le_pow_right (by omega) (by rw [HL.out]; omega)
        have hnb : numG (s.data.toList.take i) < 1000000000 := by
          have : (10 : Nat) ^ 9 = 1000000000 := by decide
          omega
        clear hng hp10
        cases gk with
        | zero =>
          obtain rfl : i = s.size := by omega
          rw [← HL.out, List.take_length] at hnb
          have htk : s.data.toList.take s.size = s.data.toList := by rw [← HL.out, List.take_length]
          have hd := HD.out
          rw [htk] at hd
          have hN2 := HN.out
          rw [hd, if_pos rfl] at hN2
          have HN2 := Aside0.mk hN2
          clear hN2 hd hi
          rw [htk]
          clear htk
          by_cases hmo : most < (numG s.data.toList : Int)
          · go_wp2
            all_goals (try (exfalso; omega))
            go_ret2
            rw [HN2.out, if_pos hmo]
            exact ⟨rfl, HB⟩
          · go_wp2
            all_goals (try (exfalso; omega))
            go_ret2
            rw [HN2.out, if_neg (by omega)]
            exact ⟨rfl, HB⟩
        | succ g =>
          have hlt : i < s.size := by omega
          have hll : i < s.data.toList.length := by rw [HL.out]; exact hlt
          obtain ⟨x, hx⟩ : ∃ x, x = s.data.toList[i] := ⟨_, rfl⟩
          obtain ⟨hc, hf⟩ := HR.out i (by rw [ints_length]; exact hll)
          rw [ints_getD _ _ hll, ← hx] at hc
          have hx1 := UInt8.toNat_lt x
          have HX := Aside0.mk hx
          have HI := Aside0.mk hi
          have HLL := Aside0.mk hll
          clear hx hi hf
          generalize hm : numG (s.data.toList.take i) = m at hnb ⊢
          have HM := Aside0.mk hm
          clear hm
          by_cases ha : (48 : Int) ≤ (x.toNat : Int)
          · by_cases hb : (x.toNat : Int) ≤ 57
            · have hw1 : IntKind.u8.wrap ((x.toNat : Int) - 48) = (x.toNat : Int) - 48 := by
                show ((x.toNat : Int) - 48) % 2 ^ 8 = _
                omega
              go_wp2
              all_goals (try (exfalso; omega))
              go_roundg g
              case measure => omega
              case rel =>
                have hdx : isDig x = true := by rw [dig_num, decide_eq_true ha, decide_eq_true hb]; rfl
                refine ⟨i + 1, by have := HI.out; omega, ?_, by go_num, ⟨?_⟩, HR, HB⟩
                · rw [List.take_succ_eq_append_getElem HLL.out, numG_snoc, ← HX.out, HM.out]
                  congr 1
                  omega
                · rw [take_all _ _ HLL.out, HD.out, ← HX.out, hdx]
                  rfl
            · have hN2 : numB s.data.toList most = (0, false) := by
                rw [HN.out, if_neg]
                intro e
                have := List.all_eq_true.1 e x (by rw [HX.out]; exact List.getElem_mem _)
                rw [dig_num, decide_eq_false hb, Bool.and_false] at this
                cases this
              have HN2 := Aside0.mk hN2
              clear hN2
              go_wp2
              all_goals (try (exfalso; omega))
              go_ret2
              rw [HN2.out]
              exact ⟨rfl, HB⟩
          · have hN2 : numB s.data.toList most = (0, false) := by
              rw [HN.out, if_neg]
              intro e
              have := List.all_eq_true.1 e x (by rw [HX.out]; exact List.getElem_mem _)
              rw [dig_num, decide_eq_false ha, Bool.false_and] at this
              cases this
            have HN2 := Aside0.mk hN2
            clear hN2
            go_wp2
            all_goals (try (exfalso; omega))
            go_ret2
            rw [HN2.out]
            exact ⟨rfl, HB⟩

def field_Number.f (a0 : ByteArray) (a1 : Int) : Option (Int × Bool) := if a0.size ≤ Big then some (numB a0.data.toList a1) else none
theorem field_Number.calls (a0 : ByteArray) (a1 : Int) (r1 : Int) (r2 : Bool) (w : World) (h : field_Number.f a0 a1 = some (r1, r2)) :
    Calls Tryd.prog 32 #[.string a0, .int .i64 a1] w fun e w' => e = .returned (.tuple #[.int .i64 r1, .bool r2]) ∧ Below w.heap.size w w' := by
  unfold field_Number.f at h
  split at h
  · rename_i hs
    have h1 := Option.some.inj h
    have := number_any a0 a1 w hs
    rw [h1] at this
    exact this
  · cases h

/-! ### strings.Join -/
def joinT (l : List ByteArray) (sep : ByteArray) : List UInt8 := Lib.join (l.map (·.data.toList)) sep.data.toList
def strings_Join.f (l0 : List ByteArray) (a1 : ByteArray) : Option ByteArray := if l0.length ≤ 140737488355328 ∧ (joinT l0 a1).length ≤ 140737488355328 then some (txt (joinT l0 a1)) else none
theorem strings_Join.calls (A0 : Option Addr) (c0 : Nat) (l0 : List ByteArray) (a1 : ByteArray) (r : ByteArray) (w : World) (hr0 : Kd.C Kd.string w A0 l0.length l0) (hc0 : l0.length ≤ c0) (h : strings_Join.f l0 a1 = some r) :
    Calls Tryd.prog 72 #[.slice A0 l0.length c0, .string a1] w fun e w' => e = .returned (.string r) ∧ Below w.heap.size w w' := by
  unfold strings_Join.f at h
  split at h
  · rename_i hs
    obtain rfl := Option.some.inj h
    cases l0 with
    | nil =>
      refine (Tryd.strings_Join_none A0 c0 a1 w).mono ?_
      rintro e w' ⟨rfl, hw⟩
      rw [hw]
      exact ⟨rfl, Below.refl _ _⟩
    | cons x l =>
      have h2 := (Kd.reads_of_C (enc := Value.string) (d := ByteArray.empty) (h1 := fun _ => rfl) hr0).2.2 (by simp)
      obtain ⟨ad, rfl, hc⟩ := h2
      obtain ⟨bk, o, sp⟩ := ad
      have h0 := hc 0 (by simp)
      obtain rfl : sp = none := by
        cases sp with
        | none => rfl
        | some y =>
          unfold World.cell? at h0
          simp [Addr.add] at h0
          split at h0 <;> simp at h0
      have hlt : bk < w.heap.size := World.block_lt_of_cell? w _ h0
      refine Tryd.strings_Join bk o c0 (x :: l) a1 w (fun j y hj => ?_) hlt hs.1 hc0 hs.2
      have hjl : j < (x :: l).length := by
        rcases Nat.lt_or_ge j (x :: l).length with h | h
        · exact h
        · rw [List.getElem?_eq_none h] at hj; cases hj
      have := hc j hjl
      rw [List.getD_eq_getElem?_getD, hj] at this
      rw [← show (⟨bk, o, none⟩ : Addr).add j = ⟨bk, o + j, none⟩ from by simp [Addr.add]]
      exact this
  · cases h

/-! ### the statement's own lower -/
theorem low_add (x : Int) (h0 : 65 ≤ x) (h1 : x ≤ 90) : Go.bits .xor .u8 x 32 = x + 32 := by
  obtain ⟨n, rfl⟩ := Int.eq_ofNat_of_zero_le (show 0 ≤ x by omega)
  have : ∀ n : Nat, n < 91 → 65 ≤ n → Go.bits .xor .u8 ((n : Nat) : Int) 32 = (n : Int) + 32 := by decide +kernel
  exact this n (by omega) (by omega)
set_option maxHeartbeats 1000000 in
theorem lawlower_any (s : ByteArray) (w : World) (hs : s.size ≤ 9223372036854775807) :
    Calls Tryd.prog 25 #[.string s] w fun e w' => e = .returned (.string (strOfNums ((ints s.data.toList).map (turnC 65)))) ∧ Below w.heap.size w w' := by
  have hcv := fun W : World => Lib.run_convert_string_bytes (P := Tryd.prog) W 9 62 5 s Tryd.underlying9 Tryd.underlying62 Tryd.underlying5
  go_enter Tryd.func25, Tryd.ntmps25
  go_wp2_with fail
  have HB0 := below_bytes w s 5
  have HR0 := Aside0.mk (bys_new w s 5)
  obtain ⟨cap, hcap⟩ : ∃ cap, cap = grownCap w s.size 0 5 := ⟨_, rfl⟩
  rw [← hcap]
  generalize Lib.bytesWorld w 5 s = W0 at HB0 HR0
  clear hcap hcv
  have hl : (ints s.data.toList).length = s.size := by rw [ints_length]; exact (Lib.size_eq s).symm
  have hbd : ∀ i : Nat, i < (ints s.data.toList).length → 0 ≤ (ints s.data.toList).getD i 0 ∧ (ints s.data.toList).getD i 0 ≤ 255 := by
    intro i hi
    rw [ints_length] at hi
    rw [ints_getD _ _ hi]
    have := UInt8.toNat_lt (s.data.toList[i])
    omega
  obtain ⟨xs, hxs⟩ : ∃ xs, xs = ints s.data.toList := ⟨_, rfl⟩
  rw [← hxs] at hl hbd HR0
  have HXS := Aside0.mk hxs
  clear hxs
  have HBD := Aside0.mk hbd
  have HL := Aside0.mk hl
  clear hl hbd
  go_loopg [4] s.size (fun g v wx => ∃ i : Nat, i + g = s.size ∧ v = .int .i64 i ∧ Aside0 (Bys wx w.heap.size (turnedL 65 xs i)) ∧ Below w.heap.size w wx)
  case atStart => exact ⟨0, by omega, rfl, ⟨by rw [turnedL_zero]; exact HR0.out⟩, HB0⟩
  case round =>
    obtain ⟨i, hi, rfl, HR, HB⟩ := hrel
    cases gk with
    | zero =>
      obtain rfl : i = s.size := by omega
      have hback := bys_back (P := Tryd.prog) (cap := cap) HR.out 62 9 5 Tryd.underlying62 Tryd.underlying5 Tryd.underlying9 s.size (by rw [turnedL_length]; exact HL.out.symm)
      rw [← HL.out, turnedL_all, HL.out] at hback
      clear hi
      go_wp2
      go_ret
      exact ⟨by rw [← HXS.out]; rfl, HB⟩
    | succ g =>
      have hlt : i < s.size := by omega
      have hll : i < xs.length := by rw [HL.out]; exact hlt
      obtain ⟨x, hx⟩ : ∃ x, x = xs[i] := ⟨_, rfl⟩
      have hgi : (turnedL 65 xs i).getD i 0 = x := by
        rw [List.getD, List.getElem?_eq_getElem (by rw [turnedL_length]; exact hll), turnedL_at _ _ _ hll, hx]
        rfl
      obtain ⟨hc, hf⟩ := HR.out i (by rw [turnedL_length]; exact hll)
      rw [hgi] at hc
      obtain ⟨hx0, hx1⟩ := HBD.out i hll
      rw [List.getD, List.getElem?_eq_getElem hll, Option.getD_some, ← hx] at hx0 hx1
      have HX := Aside0.mk hx
      clear hx hgi
      have HI := Aside0.mk hi
      clear hi
      by_cases ha : 65 ≤ x
      · by_cases hb : x ≤ 90
        · have hw1 : IntKind.u8.wrap (x + 32) = x + 32 := by
            show (x + 32) % 2 ^ 8 = _
            omega
          go_wp2
          go_roundg g
          case measure => omega
          case rel =>
            refine ⟨i + 1, by have := HI.out; omega, by go_num, ⟨?_⟩, HB.setCell (by simp) _⟩
            rw [turnedL_set _ _ _ hll, ← HX.out]
            unfold turnC
            rw [if_pos ⟨ha, by omega⟩, low_add x ha hb]
            exact bys_set HR.out i (by rw [turnedL_length]; exact hll) _
        · go_wp2
          go_roundg g
          case measure => omega
          case rel =>
            refine ⟨i + 1, by have := HI.out; omega, by go_num, ⟨?_⟩, HB⟩
            rw [turnedL_same _ _ _ hll (by rw [← HX.out]; unfold turnC; rw [if_neg (by omega)])]
            exact HR.out
      · go_wp2
        go_roundg g
        case measure => omega
        case rel =>
          refine ⟨i + 1, by have := HI.out; omega, by go_num, ⟨?_⟩, HB⟩
          rw [turnedL_same _ _ _ hll (by rw [← HX.out]; unfold turnC; rw [if_neg (by omega)])]
          exact HR.out
def law17_lower.f (a0 : ByteArray) : Option ByteArray := if a0.size ≤ Big then some (txt (Plain.lower a0.data.toList)) else none
theorem law17_lower.calls (a0 : ByteArray) (r : ByteArray) (w : World) (h : law17_lower.f a0 = some r) :
    Calls Tryd.prog 25 #[.string a0] w fun e w' => e = .returned (.string r) ∧ Below w.heap.size w w' := by
  unfold law17_lower.f at h
  split at h
  · rename_i hs
    obtain rfl := Option.some.inj h
    have := lawlower_any a0 w hs
    rw [turned_low] at this
    exact this
  · cases h

end Go.Proofs.YtaabfmpoodjhjaaDoor.Ext
