/-
  CONTRACTS, proved by hand: field.Number. Conditions: sizes.
-/
import Derived.Test.YtikhboebmmmopaaDoorExtTok
import Derived.Test.YtikhboebmmmopaaDoorWMore
namespace Go.Proofs.YtikhboebmmmopaaDoor.Ext
open Go.RowKit Go.Proofs.YtikhboebmmmopaaDoorW.PrintWords Go.Proofs.YtikhboebmmmopaaDoorW.PrintMore
attribute [local go_sem] max2_int min2_int max_two min_two   -- for this text's walks alone

/-! ### field.Number -/
def isDig (c : UInt8) : Bool := 48 ≤ c && c ≤ 57
def numG (l : List UInt8) : Nat := l.foldl (fun n c => 10 * n + (c.toNat - 48)) 0
def numB (l : List UInt8) (most : Int) : Int × Bool := if l = [] ∨ 9 < l.length then (0, false) else if l.all isDig then (if most < (numG l : Int) then most else (numG l : Int), true) else (0, false)
theorem numG_snoc (l : List UInt8) (c : UInt8) : numG (l ++ [c]) = 10 * numG l + (c.toNat - 48) := by
  unfold numG
  rw [List.foldl_append]
  rfl
theorem numG_lt : ∀ (n : Nat) (l : List UInt8), l.length = n → l.all isDig = true → numG l < 10 ^ n
  | 0, l, h, _ => by
    obtain rfl := List.length_eq_zero_iff.1 h
    decide
  | n + 1, l, h, hd => by
    obtain ⟨r, c, rfl⟩ : ∃ r c, l = r ++ [c] := by
      rcases List.eq_nil_or_concat l with rfl | ⟨r, c, hr⟩
      · cases h
      · exact ⟨r, c, by rw [hr, List.concat_eq_append]⟩
    rw [List.length_append, List.length_singleton] at h
    rw [List.all_append, Bool.and_eq_true] at hd
    have h1 := numG_lt n r (by omega) hd.1
    have h2 : isDig c = true := by simpa using hd.2
    have h3 : c.toNat ≤ 57 := by
      simp only [isDig, Bool.and_eq_true, decide_eq_true_eq] at h2
      exact UInt8.le_iff_toNat_le.1 h2.2
    rw [numG_snoc, Nat.pow_succ]
    omega
theorem take_all {p : UInt8 → Bool} (l : List UInt8) (i : Nat) (h : i < l.length) : (l.take (i + 1)).all p = ((l.take i).all p && p l[i]) := by
  rw [List.take_succ_eq_append_getElem h, List.all_append]
  simp
theorem dig_num (c : UInt8) : isDig c = (decide (48 ≤ (c.toNat : Int)) && decide ((c.toNat : Int) ≤ 57)) := by
  have := Plain.all_bytes (p := fun c => isDig c == (decide (48 ≤ (c.toNat : Int)) && decide ((c.toNat : Int) ≤ 57))) (by decide +kernel) c
  simpa using this

set_option maxHeartbeats 2000000 in
theorem number_any (s : ByteArray) (most : Int) (w : World) (hs : s.size ≤ 9223372036854775807) :
    Calls Tryd.prog 42 #[.string s, .int .i64 most] w fun e w' => e = .returned (.tuple #[.int .i64 (numB s.data.toList most).1, .bool (numB s.data.toList most).2]) ∧ Below w.heap.size w w' := by
  have hcv := fun W : World => Lib.run_convert_string_bytes (P := Tryd.prog) W 9 42 5 s Tryd.underlying9 Tryd.underlying42 Tryd.underlying5
  have hl : s.data.toList.length = s.size := (Lib.size_eq s).symm
  by_cases h0 : s.toList = []
  · have hb : (s.toList == []) = true := by rw [h0]; rfl
    have hN : numB s.data.toList most = (0, false) := by
      rw [Lib.toList_data] at h0
      unfold numB
      rw [if_pos (.inl h0)]
    have HN := Aside0.mk hN
    clear hN h0 hl hcv
    go_enter Tryd.func42, Tryd.ntmps42
    go_wp2
    go_ret2
    rw [HN.out]
    exact ⟨rfl, Below.refl _ _⟩
  · have hb : (s.toList == []) = false := beq_eq_false_iff_ne.2 h0
    by_cases h9 : (s.size : Int) > 9
    · have hN : numB s.data.toList most = (0, false) := by
        unfold numB
        rw [if_pos (.inr (by omega))]
      have HN := Aside0.mk hN
      clear hN h0 hl hcv
      go_enter Tryd.func42, Tryd.ntmps42
      go_wp2
      all_goals (try (exfalso; omega))
      go_ret2
      rw [HN.out]
      exact ⟨rfl, Below.refl _ _⟩
    · have hN : numB s.data.toList most = if s.data.toList.all isDig then (if most < (numG s.data.toList : Int) then most else (numG s.data.toList : Int), true) else (0, false) := by
        rw [Lib.toList_data] at h0
        unfold numB
        rw [if_neg (fun e => e.elim h0 (fun e => by omega))]
      have HN := Aside0.mk hN
      have HL := Aside0.mk hl
      clear hN h0 hl
      have h9' : s.size ≤ 9 := by omega
      go_enter Tryd.func42, Tryd.ntmps42
      go_wp2_with fail
      all_goals (try (exfalso; omega))
      have HB0 := below_bytes w s 5
      have HR0 := Aside0.mk (bys_new w s 5)
      obtain ⟨cap, hcap⟩ : ∃ cap, cap = grownCap w s.size 0 5 := ⟨_, rfl⟩
      rw [← hcap]
      generalize Lib.bytesWorld w 5 s = W0 at HB0 HR0
      clear hcap hcv hb h9
      go_loopg [6, 8, 19] s.size (fun g v6 _ v19 wx => ∃ i : Nat, i + g = s.size ∧ v6 = .int .i64 (numG (s.data.toList.take i) : Int) ∧ v19 = .int .i64 i ∧ Aside0 ((s.data.toList.take i).all isDig = true) ∧ Aside0 (Bys wx w.heap.size (ints s.data.toList)) ∧ Below w.heap.size w wx)
      case atStart => exact ⟨0, by omega, rfl, rfl, ⟨rfl⟩, HR0, HB0⟩
      case round =>
        obtain ⟨i, hi, rfl, rfl, HD, HR, HB⟩ := hrel
        have hng := numG_lt (min i s.data.toList.length) _ (List.length_take) HD.out
        have hp10 : 10 ^ (min i s.data.toList.length) ≤ 10 ^ 9 := Nat.pow_le_pow_right (by omega) (by rw [HL.out]; omega)
        have hnb : numG (s.data.toList.take i) < 1000000000 := by
          have : (10 : Nat) ^ 9 = 1000000000 := by decide
          omega
        clear hng hp10
        cases gk with
        | zero =>
          obtain rfl : i = s.size := by omega
          rw [← HL.out, List.take_length] at hnb
          have htk : s.data.toList.take s.size = s.data.toList := by rw [← HL.out, List.take_length]
          have hd := HD.out
          rw [htk] at hd
          have hN2 := HN.out
          rw [hd, if_pos rfl] at hN2
          have HN2 := Aside0.mk hN2
          clear hN2 hd hi
          rw [htk]
          clear htk
          by_cases hmo : most < (numG s.data.toList : Int)
          · go_wp2
            all_goals (try (exfalso; omega))
            go_ret2
            rw [HN2.out, if_pos hmo]
            exact ⟨rfl, HB⟩
          · go_wp2
            all_goals (try (exfalso; omega))
            go_ret2
            rw [HN2.out, if_neg (by omega)]
            exact ⟨rfl, HB⟩
        | succ g =>
          have hlt : i < s.size := by omega
          have hll : i < s.data.toList.length := by rw [HL.out]; exact hlt
          obtain ⟨x, hx⟩ : ∃ x, x = s.data.toList[i] := ⟨_, rfl⟩
          obtain ⟨hc, hf⟩ := HR.out i (by rw [ints_length]; exact hll)
          rw [ints_getD _ _ hll, ← hx] at hc
          have hx1 := UInt8.toNat_lt x
          have HX := Aside0.mk hx
          have HI := Aside0.mk hi
          have HLL := Aside0.mk hll
          clear hx hi hf
          generalize hm : numG (s.data.toList.take i) = m at hnb ⊢
          have HM := Aside0.mk hm
          clear hm
          by_cases ha : (48 : Int) ≤ (x.toNat : Int)
          · by_cases hb : (x.toNat : Int) ≤ 57
            · have hw1 : IntKind.u8.wrap ((x.toNat : Int) - 48) = (x.toNat : Int) - 48 := by
                show ((x.toNat : Int) - 48) % 2 ^ 8 = _
                omega
              go_wp2
              all_goals (try (exfalso; omega))
              go_roundg g
              case measure => omega
              case rel =>
                have hdx : isDig x = true := by rw [dig_num, decide_eq_true ha, decide_eq_true hb]; rfl
                refine ⟨i + 1, by have := HI.out; omega, ?_, by go_num, ⟨?_⟩, HR, HB⟩
                · rw [List.take_succ_eq_append_getElem HLL.out, numG_snoc, ← HX.out, HM.out]
                  congr 1
                  omega
                · rw [take_all _ _ HLL.out, HD.out, ← HX.out, hdx]
                  rfl
            · have hN2 : numB s.data.toList most = (0, false) := by
                rw [HN.out, if_neg]
                intro e
                have := List.all_eq_true.1 e x (by rw [HX.out]; exact List.getElem_mem _)
                rw [dig_num, decide_eq_false hb, Bool.and_false] at this
                cases this
              have HN2 := Aside0.mk hN2
              clear hN2
              go_wp2
              all_goals (try (exfalso; omega))
              go_ret2
              rw [HN2.out]
              exact ⟨rfl, HB⟩
          · have hN2 : numB s.data.toList most = (0, false) := by
              rw [HN.out, if_neg]
              intro e
              have := List.all_eq_true.1 e x (by rw [HX.out]; exact List.getElem_mem _)
              rw [dig_num, decide_eq_false ha, Bool.false_and] at this
              cases this
            have HN2 := Aside0.mk hN2
            clear hN2
            go_wp2
            all_goals (try (exfalso; omega))
            go_ret2
            rw [HN2.out]
            exact ⟨rfl, HB⟩

def field_Number.f (a0 : ByteArray) (a1 : Int) : Option (Int × Bool) := if a0.size ≤ Big then some (numB a0.data.toList a1) else none
theorem field_Number.calls (a0 : ByteArray) (a1 : Int) (r1 : Int) (r2 : Bool) (w : World) (h : field_Number.f a0 a1 = some (r1, r2)) :
    Calls Tryd.prog 42 #[.string a0, .int .i64 a1] w fun e w' => e = .returned (.tuple #[.int .i64 r1, .bool r2]) ∧ Below w.heap.size w w' := by
  unfold field_Number.f at h
  split at h
  · rename_i hs
    have h1 := Option.some.inj h
    have := number_any a0 a1 w hs
    rw [h1] at this
    exact this
  · cases h

end Go.Proofs.YtikhboebmmmopaaDoor.Ext
