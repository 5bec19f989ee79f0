/-
  The functions of layer 9 that the print does not take, each as a plain function with the proof that the Go code answers just this. Conditions: those that stand in the plain function; the tables of unicode/utf8 where Tabs stands.
  CONTRACTS, proved by hand: field.Number. Conditions: sizes.
  CONTRACTS, proved by hand: internal/stringslite.Index at a separator of one byte. Conditions: those in each statement.
-/
import Derived.Test.YtikhboebmmmopaaGreatDoorExtN
import Derived.Shelf.Strings.SlTrimAscii
import Derived.Test.YtikhboebmmmopaaGreatDoorWMore
namespace Go.Proofs.YtikhboebmmmopaaGreatDoor.Ext
open Go.RowKit Go.Proofs.YtikhboebmmmopaaGreatDoorW.PrintWords

/-- the most that an int counts -/
def Big : Nat := 9223372036854775807
/-- a text out of bytes -/
def txt (l : List UInt8) : ByteArray := ⟨l.toArray⟩
theorem txt_data (l : List UInt8) : (txt l).data.toList = l := rfl
theorem txt_size (l : List UInt8) : (txt l).size = l.length := by rw [Lib.size_eq]; rfl
theorem txt_self (s : ByteArray) : txt s.data.toList = s := rfl
theorem txt_inj {a b : List UInt8} (h : txt a = txt b) : a = b := by
  have := congrArg (fun x : ByteArray => x.data.toList) h
  exact this
theorem data_inj {a b : ByteArray} (h : a.data.toList = b.data.toList) : a = b := by
  rw [← txt_self a, ← txt_self b, h]

theorem ne_nil_empty (l : List UInt8) : (l != []) = !l.isEmpty := by cases l <;> rfl

def token_Name.f (a0 : ByteArray) : Option (Bool) := if a0.size ≤ Big then some (Plain.nameB a0.data.toList) else none
theorem token_Name.calls (a0 : ByteArray) (r : Bool) (w : World) (hT : Tabs w) (h : token_Name.f a0 = some r) :
    Calls Tryz.prog 66 #[.string a0] w fun e w' => e = .returned (.bool r) ∧ Below w.heap.size w w' := by
  unfold token_Name.f at h
  split at h
  · rename_i hs
    obtain rfl := Option.some.inj h
    exact name_any a0 w hT hs
  · cases h

theorem takeWhile_all {p : UInt8 → Bool} : ∀ (l : List UInt8) c, c ∈ l.takeWhile p → p c = true
  | [], c, h => by simp at h
  | a :: r, c, h => by
    rw [List.takeWhile_cons] at h
    split at h
    · rename_i ha
      rcases List.mem_cons.1 h with rfl | h
      · exact ha
      · exact takeWhile_all r c h
    · simp at h
theorem trims_comm (l cs : List UInt8) : Lib.trimS l cs = Plain.trimP (cs.contains ·) l := by
  -- the document's order: ahead, then behind
  have key : ∀ m : List UInt8, Lib.trimLeftS (Lib.trimRightS m cs) cs = Lib.trimRightS (Lib.trimLeftS m cs) cs := by
    intro m
    obtain ⟨a, b, ha, hb⟩ : ∃ a b : List UInt8, m = a ++ b ∧ (∀ c ∈ a, cs.contains c = true) ∧ Lib.trimLeftS m cs = b := by
      refine ⟨m.takeWhile (cs.contains ·), m.dropWhile (cs.contains ·), List.takeWhile_append_dropWhile.symm, fun c hc => ?_, rfl⟩
      exact takeWhile_all m c hc
    obtain ⟨hba, hbl⟩ := hb
    rw [hbl]
    by_cases h0 : b = []
    · subst h0
      have hall : ∀ c ∈ m, cs.contains c = true := by rw [ha]; simpa using hba
      have h1 : Lib.trimRightS m cs = [] := by
        unfold Lib.trimRightS
        rw [(Plain.dropWhile_nil_iff m.reverse).2 (fun c hc => hall c (List.mem_reverse.1 hc))]
        rfl
      rw [h1]
      rfl
    · have hh := Plain.dropWhile_head (p := (cs.contains ·)) m
      have hb0 : ∀ c, b.head? = some c → cs.contains c = false := fun c hc => hh c (by rw [← hbl] at hc; exact hc)
      have h1 : b.reverse.dropWhile (cs.contains ·) ≠ [] := by
        intro h
        have := (Plain.dropWhile_nil_iff _).1 h
        cases b with
        | nil => exact h0 rfl
        | cons x r =>
          have h2 := this x (by simp)
          rw [hb0 x rfl] at h2
          cases h2
      unfold Lib.trimRightS
      rw [ha, List.reverse_append, Plain.dropWhile_append_ne _ _ h1, List.reverse_append, List.reverse_reverse]
      unfold Lib.trimLeftS
      rw [Plain.dropWhile_append_all _ _ hba]
      refine Plain.dropWhile_id (fun c hc => hb0 c ?_)
      cases b with
      | nil => exact absurd rfl h0
      | cons x r =>
        rw [List.reverse_cons] at hc h1
        by_cases h2 : r.reverse.dropWhile (cs.contains ·) = []
        · rw [Plain.dropWhile_append_all _ _ ((Plain.dropWhile_nil_iff _).1 h2), List.dropWhile_cons, hb0 x rfl] at hc
          simpa using hc
        · rw [Plain.dropWhile_append_ne _ _ h2] at hc
          simpa using hc
  show Lib.trimLeftS (Lib.trimRightS l cs) cs = _
  rw [key]
  rfl

def strings_Trim.f (a0 : ByteArray) (a1 : ByteArray) : Option (ByteArray) := if a0.size ≤ Big ∧ a1.size < 4294967281 ∧ a1.data.toList.all (fun b => decide (b.toNat < 128)) = true then some (txt (Plain.trimP (a1.data.toList.contains ·) a0.data.toList)) else none
theorem strings_Trim.calls (a0 : ByteArray) (a1 : ByteArray) (r : ByteArray) (w : World) (h : strings_Trim.f a0 a1 = some r) :
    Calls Tryz.prog 73 #[.string a0, .string a1] w fun e w' => e = .returned (.string r) ∧ Below w.heap.size w w' := by
  unfold strings_Trim.f at h
  split at h
  · rename_i hs
    obtain rfl := Option.some.inj h
    rw [← trims_comm]
    exact Any.strings_Trim_laid Tryz.lays160 (by kernel_rfl) a0 a1 w hs.1 hs.2.1 (fun j b hb => asc_of_all hs.2.2 b (List.mem_of_getElem? hb))
  · cases h
theorem trim_blanks (s : ByteArray) (hs : s.size ≤ Big) : strings_Trim.f s ⟨#[9, 10, 13, 32]⟩ = some (txt (Plain.trimB s.data.toList)) := by
  unfold strings_Trim.f
  rw [if_pos ⟨hs, by decide, by decide⟩]
  unfold Plain.trimB
  congr 3
  funext c
  have := Plain.all_bytes (p := fun c => [9, 10, 13, 32].contains c == Plain.isBlank c) (by decide +kernel) c
  simpa using this
theorem trim_tabs (s : ByteArray) (hs : s.size ≤ Big) : strings_Trim.f s ⟨#[9, 32]⟩ = some (txt (Plain.trimP Plain.isTab s.data.toList)) := by
  unfold strings_Trim.f
  rw [if_pos ⟨hs, by decide, by decide⟩]
  congr 3
  funext c
  have := Plain.all_bytes (p := fun c => [9, 32].contains c == Plain.isTab c) (by decide +kernel) c
  simpa using this

def token_Lower.f (a0 : ByteArray) : Option (ByteArray) := if a0.size ≤ Big then some (txt (Plain.lower a0.data.toList)) else none
theorem token_Lower.calls (a0 : ByteArray) (r : ByteArray) (w : World) (h : token_Lower.f a0 = some r) :
    Calls Tryz.prog 24 #[.string a0] w fun e w' => e = .returned (.string r) ∧ Below w.heap.size w w' := by
  unfold token_Lower.f at h
  split at h
  · rename_i hs
    obtain rfl := Option.some.inj h
    exact lower_any a0 w hs
  · cases h
def token_upper.f (a0 : ByteArray) : Option (ByteArray) := if a0.size ≤ Big then some (txt (Plain.upper a0.data.toList)) else none
theorem token_upper.calls (a0 : ByteArray) (r : ByteArray) (w : World) (h : token_upper.f a0 = some r) :
    Calls Tryz.prog 35 #[.string a0] w fun e w' => e = .returned (.string r) ∧ Below w.heap.size w w' := by
  unfold token_upper.f at h
  split at h
  · rename_i hs
    obtain rfl := Option.some.inj h
    exact upper_any a0 w hs
  · cases h
def ref09_turned.f (a0 : ByteArray) (a1 : Int) (a2 : Int) : Option (ByteArray) := if a0.size ≤ Big ∧ (0 ≤ a1 ∧ a1 ≤ 200) ∧ a2 = 32 then some (strOfNums ((ints a0.data.toList).map (turnC a1))) else none
theorem ref09_turned.calls (a0 : ByteArray) (a1 : Int) (a2 : Int) (r : ByteArray) (w : World) (h : ref09_turned.f a0 a1 a2 = some r) :
    Calls Tryz.prog 36 #[.string a0, .int .u8 a1, .int .u8 a2] w fun e w' => e = .returned (.string r) ∧ Below w.heap.size w w' := by
  unfold ref09_turned.f at h
  split at h
  · rename_i hs
    obtain rfl := Option.some.inj h
    obtain ⟨h0, h1, rfl⟩ := hs
    exact turned_any a0 a1 w h0 h1.1 h1.2
  · cases h
theorem turned_lower (s : ByteArray) (hs : s.size ≤ Big) : ref09_turned.f s 65 32 = some (txt (Plain.lower s.data.toList)) := by
  unfold ref09_turned.f
  rw [if_pos ⟨hs, by omega, rfl⟩, turned_low]
  rfl
theorem turned_upper (s : ByteArray) (hs : s.size ≤ Big) : ref09_turned.f s 97 32 = some (txt (Plain.upper s.data.toList)) := by
  unfold ref09_turned.f
  rw [if_pos ⟨hs, by omega, rfl⟩, turned_up]
  rfl
end Go.Proofs.YtikhboebmmmopaaGreatDoor.Ext
namespace Go.Proofs.YtikhboebmmmopaaGreatDoor.Ext
open Go.RowKit Go.Proofs.YtikhboebmmmopaaGreatDoorW.PrintWords Go.Proofs.YtikhboebmmmopaaGreatDoorW.PrintMore
attribute [local go_sem] max2_int min2_int max_two min_two   -- for this text's walks alone

/-! ### field.Number -/
def isDig (c : UInt8) : Bool := 48 ≤ c && c ≤ 57
def numG (l : List UInt8) : Nat := l.foldl (fun n c => 10 * n + (c.toNat - 48)) 0
def numB (l : List UInt8) (most : Int) : Int × Bool := if l = [] ∨ 9 < l.length then (0, false) else if l.all isDig then (if most < (numG l : Int) then most else (numG l : Int), true) else (0, false)
theorem numG_snoc (l : List UInt8) (c : UInt8) : numG (l ++ [c]) = 10 * numG l + (c.toNat - 48) := by
  unfold numG
  rw [List.foldl_append]
  rfl
theorem numG_lt : ∀ (n : Nat) (l : List UInt8), l.length = n → l.all isDig = true → numG l < 10 ^ n
  | 0, l, h, _ => by
    obtain rfl := List.length_eq_zero_iff.1 h
    decide
  | n + 1, l, h, hd => by
    obtain ⟨r, c, rfl⟩ : ∃ r c, l = r ++ [c] := by
      rcases List.eq_nil_or_concat l with rfl | ⟨r, c, hr⟩
      · cases h
      · exact ⟨r, c, by rw [hr, List.concat_eq_append]⟩
    rw [List.length_append, List.length_singleton] at h
    rw [List.all_append, Bool.and_eq_true] at hd
    have h1 := numG_lt n r (by omega) hd.1
    have h2 : isDig c = true := by simpa using hd.2
    have h3 : c.toNat ≤ 57 := by
      simp only [isDig, Bool.and_eq_true, decide_eq_true_eq] at h2
      exact UInt8.le_iff_toNat_le.1 h2.2
    rw [numG_snoc, Nat.pow_succ]
    omega
theorem take_all {p : UInt8 → Bool} (l : List UInt8) (i : Nat) (h : i < l.length) : (l.take (i + 1)).all p = ((l.take i).all p && p l[i]) := by
  rw [List.take_succ_eq_append_getElem h, List.all_append]
  simp
theorem dig_num (c : UInt8) : isDig c = (decide (48 ≤ (c.toNat : Int)) && decide ((c.toNat : Int) ≤ 57)) := by
  have := Plain.all_bytes (p := fun c => isDig c == (decide (48 ≤ (c.toNat : Int)) && decide ((c.toNat : Int) ≤ 57))) (by decide +kernel) c
  simpa using this

set_option maxHeartbeats 2000000 in
theorem number_any (s : ByteArray) (most : Int) (w : World) (hs : s.size ≤ 9223372036854775807) :
    Calls Tryz.prog 58 #[.string s, .int .i64 most] w fun e w' => e = .returned (.tuple #[.int .i64 (numB s.data.toList most).1, .bool (numB s.data.toList most).2]) ∧ Below w.heap.size w w' := by
  have hcv := fun W : World => Lib.run_convert_string_bytes (P := Tryz.prog) W 9 58 5 s Tryz.underlying9 Tryz.underlying58 Tryz.underlying5
  have hl : s.data.toList.length = s.size := (Lib.size_eq s).symm
  by_cases h0 : s.toList = []
  · have hb : (s.toList == []) = true := by rw [h0]; rfl
    have hN : numB s.data.toList most = (0, false) := by
      rw [Lib.toList_data] at h0
      unfold numB
      rw [if_pos (.inl h0)]
    have HN := Aside0.mk hN
    clear hN h0 hl hcv
    go_enter Tryz.func58, Tryz.ntmps58
    go_wp2
    go_ret2
    rw [HN.out]
    exact ⟨rfl, Below.refl _ _⟩
  · have hb : (s.toList == []) = false := beq_eq_false_iff_ne.2 h0
    by_cases h9 : (s.size : Int) > 9
    · have hN : numB s.data.toList most = (0, false) := by
        unfold numB
        rw [if_pos (.inr (by omega))]
      have HN := Aside0.mk hN
      clear hN h0 hl hcv
      go_enter Tryz.func58, Tryz.ntmps58
      go_wp2
      all_goals (try (exfalso; omega))
      go_ret2
      rw [HN.out]
      exact ⟨rfl, Below.refl _ _⟩
    · have hN : numB s.data.toList most = if s.data.toList.all isDig then (if most < (numG s.data.toList : Int) then most else (numG s.data.toList : Int), true) else (0, false) := by
        rw [Lib.toList_data] at h0
        unfold numB
        rw [if_neg (fun e => e.elim h0 (fun e => by omega))]
      have HN := Aside0.mk hN
      have HL := Aside0.mk hl
      clear hN h0 hl
      have h9' : s.size ≤ 9 := by omega
      go_enter Tryz.func58, Tryz.ntmps58
      go_wp2_with fail
      all_goals (try (exfalso; omega))
      have HB0 := below_bytes w s 5
      have HR0 := Aside0.mk (bys_new w s 5)
      obtain ⟨cap, hcap⟩ : ∃ cap, cap = grownCap w s.size 0 5 := ⟨_, rfl⟩
      rw [← hcap]
      generalize Lib.bytesWorld w 5 s = W0 at HB0 HR0
      clear hcap hcv hb h9
      go_loopg [6, 8, 19] s.size (fun g v6 _ v19 wx => ∃ i : Nat, i + g = s.size ∧ v6 = .int .i64 (numG (s.data.toList.take i) : Int) ∧ v19 = .int .i64 i ∧ Aside0 ((s.data.toList.take i).all isDig = true) ∧ Aside0 (Bys wx w.heap.size (ints s.data.toList)) ∧ Below w.heap.size w wx)
      case atStart => exact ⟨0, by omega, rfl, rfl, ⟨rfl⟩, HR0, HB0⟩
      case round =>
        obtain ⟨i, hi, rfl, rfl, HD, HR, HB⟩ := hrel
        have hng := numG_lt (min i s.data.toList.length) _ (List.length_take) HD.out
        have hp10 : 10 ^ (min i s.data.toList.length) ≤ 10 ^ 9 := Nat.pow_le_pow_right (by omega) (by rw [HL.out]; omega)
        have hnb : numG (s.data.toList.take i) < 1000000000 := by
          have : (10 : Nat) ^ 9 = 1000000000 := by decide
          omega
        clear hng hp10
        cases gk with
        | zero =>
          obtain rfl : i = s.size := by omega
          rw [← HL.out, List.take_length] at hnb
          have htk : s.data.toList.take s.size = s.data.toList := by rw [← HL.out, List.take_length]
          have hd := HD.out
          rw [htk] at hd
          have hN2 := HN.out
          rw [hd, if_pos rfl] at hN2
          have HN2 := Aside0.mk hN2
          clear hN2 hd hi
          rw [htk]
          clear htk
          by_cases hmo : most < (numG s.data.toList : Int)
          · go_wp2
            all_goals (try (exfalso; omega))
            go_ret2
            rw [HN2.out, if_pos hmo]
            exact ⟨rfl, HB⟩
          · go_wp2
            all_goals (try (exfalso; omega))
            go_ret2
            rw [HN2.out, if_neg (by omega)]
            exact ⟨rfl, HB⟩
        | succ g =>
          have hlt : i < s.size := by omega
          have hll : i < s.data.toList.length := by rw [HL.out]; exact hlt
          obtain ⟨x, hx⟩ : ∃ x, x = s.data.toList[i] := ⟨_, rfl⟩
          obtain ⟨hc, hf⟩ := HR.out i (by rw [ints_length]; exact hll)
          rw [ints_getD _ _ hll, ← hx] at hc
          have hx1 := UInt8.toNat_lt x
          have HX := Aside0.mk hx
          have HI := Aside0.mk hi
          have HLL := Aside0.mk hll
          clear hx hi hf
          generalize hm : numG (s.data.toList.take i) = m at hnb ⊢
          have HM := Aside0.mk hm
          clear hm
          by_cases ha : (48 : Int) ≤ (x.toNat : Int)
          · by_cases hb : (x.toNat : Int) ≤ 57
            · have hw1 : IntKind.u8.wrap ((x.toNat : Int) - 48) = (x.toNat : Int) - 48 := by
                show ((x.toNat : Int) - 48) % 2 ^ 8 = _
                omega
              go_wp2
              all_goals (try (exfalso; omega))
              go_roundg g
              case measure => omega
              case rel =>
                have hdx : isDig x = true := by rw [dig_num, decide_eq_true ha, decide_eq_true hb]; rfl
                refine ⟨i + 1, by have := HI.out; omega, ?_, by go_num, ⟨?_⟩, HR, HB⟩
                · rw [List.take_succ_eq_append_getElem HLL.out, numG_snoc, ← HX.out, HM.out]
                  congr 1
                  omega
                · rw [take_all _ _ HLL.out, HD.out, ← HX.out, hdx]
                  rfl
            · have hN2 : numB s.data.toList most = (0, false) := by
                rw [HN.out, if_neg]
                intro e
                have := List.all_eq_true.1 e x (by rw [HX.out]; exact List.getElem_mem _)
                rw [dig_num, decide_eq_false hb, Bool.and_false] at this
                cases this
              have HN2 := Aside0.mk hN2
              clear hN2
              go_wp2
              all_goals (try (exfalso; omega))
              go_ret2
              rw [HN2.out]
              exact ⟨rfl, HB⟩
          · have hN2 : numB s.data.toList most = (0, false) := by
              rw [HN.out, if_neg]
              intro e
              have := List.all_eq_true.1 e x (by rw [HX.out]; exact List.getElem_mem _)
              rw [dig_num, decide_eq_false ha, Bool.false_and] at this
              cases this
            have HN2 := Aside0.mk hN2
            clear hN2
            go_wp2
            all_goals (try (exfalso; omega))
            go_ret2
            rw [HN2.out]
            exact ⟨rfl, HB⟩

def field_Number.f (a0 : ByteArray) (a1 : Int) : Option (Int × Bool) := if a0.size ≤ Big then some (numB a0.data.toList a1) else none
theorem field_Number.calls (a0 : ByteArray) (a1 : Int) (r1 : Int) (r2 : Bool) (w : World) (h : field_Number.f a0 a1 = some (r1, r2)) :
    Calls Tryz.prog 58 #[.string a0, .int .i64 a1] w fun e w' => e = .returned (.tuple #[.int .i64 r1, .bool r2]) ∧ Below w.heap.size w w' := by
  unfold field_Number.f at h
  split at h
  · rename_i hs
    have h1 := Option.some.inj h
    have := number_any a0 a1 w hs
    rw [h1] at this
    exact this
  · cases h

end Go.Proofs.YtikhboebmmmopaaGreatDoor.Ext
namespace Go.Proofs.YtikhboebmmmopaaGreatDoor.Ext
open Go.RowKit Go.Proofs.YtikhboebmmmopaaGreatDoorW.PrintWords
/-! ### internal/stringslite.Index at one byte -/
def stringslite_Index.f (a0 : ByteArray) (a1 : ByteArray) : Option Int := if a1.size = 1 ∧ a0.size ≤ Big then some (Lib.indexByte a0.data.toList (a1.data[0]?.getD 0)) else none
theorem stringslite_Index.calls (a0 : ByteArray) (a1 : ByteArray) (r : Int) (w : World) (h : stringslite_Index.f a0 a1 = some r) :
    Calls Tryz.prog 75 #[.string a0, .string a1] w fun e w' => e = .returned (.int .i64 r) ∧ Below w.heap.size w w' := by
  unfold stringslite_Index.f at h
  split at h
  · rename_i hs
    obtain rfl := Option.some.inj h
    obtain ⟨⟨l⟩⟩ := a1
    have h1 : l.length = 1 := hs.1
    obtain ⟨c, rfl⟩ := List.length_eq_one_iff.1 h1
    refine (Tryz.stringslite_Index_one a0 c w).mono ?_
    rintro e w' ⟨rfl, rfl⟩
    exact ⟨rfl, Below.refl _ _⟩
  · cases h
end Go.Proofs.YtikhboebmmmopaaGreatDoor.Ext
