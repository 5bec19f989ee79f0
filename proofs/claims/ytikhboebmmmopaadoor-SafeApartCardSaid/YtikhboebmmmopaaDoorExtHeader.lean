/-
  CONTRACTS, proved by hand: safe.content, safe.ranged, safe.Header. Conditions: sizes; the tables of unicode/utf8 where Tabs stands.
-/
import Derived.Test.YtikhboebmmmopaaDoorExtSafe2
import Derived.Test.YtikhboebmmmopaaDoorExtMap
import Derived.Test.YtikhboebmmmopaaDoorPureE
namespace Go.Proofs.YtikhboebmmmopaaDoor.Ext
open Go.RowKit Go.Proofs.YtikhboebmmmopaaDoorW.PrintWords
open Go.Proofs.YtikhboebmmmopaaDoor.PureE (essT idxI)

theorem kinds_at (v : List UInt8) : idxI (Plain.kinds.map txt) (essT v).1 = Plain.kinds.any (fun k => Plain.essence v == some k) := by
  unfold essT
  cases h : Plain.essence v with
  | none =>
    show idxI (Plain.kinds.map txt) (⟨#[]⟩ : ByteArray) = _
    rw [show (⟨#[]⟩ : ByteArray) = txt [] from rfl, PureE.idx_lists]
    decide
  | some e =>
    show idxI (Plain.kinds.map txt) (txt e) = _
    rw [PureE.idx_lists, Bool.eq_iff_iff, List.contains_iff_mem, List.any_eq_true]
    constructor
    · intro hm
      exact ⟨e, hm, by simp⟩
    · rintro ⟨k, hk, he⟩
      have : e = k := by simpa using he
      rw [this]
      exact hk

set_option maxHeartbeats 2000000 in
theorem content_any (s : ByteArray) (w : World) (hT : Tabs w) (hs : s.size ≤ 1152921504606846976) :
    Calls Tryd.prog 31 #[.string s] w fun e w' => e = .returned (.bool (Plain.contB s.data.toList)) ∧ Below w.heap.size w w' := by
  have HE := Aside0.mk (FunE.mime_Essence.calls s (essT s.data.toList).1 (essT s.data.toList).2 w hT (PureE.essence_f s hs))
  have eg := enters_of Tryd.func37 (by kernel_rfl) rfl
  have HG := Aside0.mk (show Plain.contB s.data.toList = (!s.data.toList.any Plain.oddB && idxI (Plain.kinds.map txt) (essT s.data.toList).1) from by rw [kinds_at]; rfl)
  rw [HG.out]
  clear HG
  have HWA := Aside0.mk (fun a W hc => withoutOdd_any a s W (by omega) hc)
  have HXA := Aside0.mk (fun W A hr => FunE.slices_Contains_string_string.calls 60 A 3 (Plain.kinds.map txt) (essT s.data.toList).1 _ W hr (by decide) (PureE.contains_f (Plain.kinds.map txt) (essT s.data.toList).1 (by decide) 60 (by decide)))
  generalize idxI (Plain.kinds.map txt) (essT s.data.toList).1 = r at *
  generalize (essT s.data.toList).1 = kd at *
  generalize (essT s.data.toList).2 = ok at *
  generalize s.data.toList.any Plain.oddB = od at *
  clear hs hT
  go_enter Tryd.func31, Tryd.ntmps31
  go_wp2_with fail
  refine HE.out.mono ?_
  rintro e w1 ⟨rfl, hb1⟩
  have HB1 := Aside0.mk hb1
  clear hb1 HE
  go_wp2_with fail
  refine (without_any 30 w1).mono ?_
  rintro e w2 ⟨rfl, rfl⟩
  have hc := World.alloc_heap_new w1 (Obj.cells #[Value.func (Fn.func 30) #[] #[]] 46)
  have HW := Aside0.mk (HWA.out ⟨w1.heap.size, 0, none⟩ (w1.alloc (Obj.cells #[Value.func (Fn.func 30) #[] #[]] 46)) (by unfold World.cell?; simp only [hc]; rfl))
  clear hc HWA
  have HB2 := Aside0.mk (below_alloc HB1.out (.cells #[Value.func (Fn.func 30) #[] #[]] 46))
  clear HB1
  generalize (w1.alloc (Obj.cells #[Value.func (Fn.func 30) #[] #[]] 46)) = w2 at HW HB2
  go_wp2_with fail
  refine HW.out.mono ?_
  rintro e w3 ⟨rfl, hb3⟩
  have HB3 := Aside0.mk (below_then HB2.out HB2.out.size hb3)
  clear hb3 HW HB2
  cases od with
  | true =>
    go_wp2
    go_ret
    exact ⟨rfl, HB3.out⟩
  | false =>
    have HC := Aside0.mk (C_block (xs := Plain.kinds.map txt) (World.alloc_heap_new w3 (.cells ((Plain.kinds.map txt).map Value.string).toArray 9)) (by decide))
    have HX := Aside0.mk (HXA.out _ _ HC.out)
    clear HC HXA
    go_wp2_with fail
    refine HX.out.mono ?_
    rintro e w4 ⟨rfl, hd⟩
    have HB4 := Aside0.mk (below_then (below_alloc HB3.out (.cells ((Plain.kinds.map txt).map Value.string).toArray 9)) (below_alloc HB3.out _).size hd.below)
    clear hd HX HB3
    go_wp2
    go_ret
    exact ⟨rfl, HB4.out⟩

set_option maxHeartbeats 2000000 in
theorem ranged_walk (s s1 fr tb : ByteArray) (ok is one two em : Bool) (a b : Int) (w : World)
    (H1 : Aside0 (∀ W, Calls Tryd.prog 40 #[.string s, .string (⟨#[98, 121, 116, 101, 115, 61]⟩ : ByteArray)] W fun e w' => e = .returned (.tuple #[.string s1, .bool ok]) ∧ Drawn0 W w'))
    (H2 : Aside0 (∀ W, Calls Tryd.prog 41 #[.string s1, .string (⟨#[45]⟩ : ByteArray)] W fun e w' => e = .returned (.tuple #[.string fr, .string tb, .bool is]) ∧ Below W.heap.size W w'))
    (H3 : Aside0 (∀ W, Calls Tryd.prog 42 #[.string fr, .int .i64 1000000000] W fun e w' => e = .returned (.tuple #[.int .i64 a, .bool one]) ∧ Below W.heap.size W w'))
    (H4 : Aside0 (∀ W, Calls Tryd.prog 42 #[.string tb, .int .i64 1000000000] W fun e w' => e = .returned (.tuple #[.int .i64 b, .bool two]) ∧ Below W.heap.size W w'))
    (HEM : Aside0 ((tb.toList == []) = em)) :
    Calls Tryd.prog 32 #[.string s] w fun e w' => e = .returned (.bool (ok && (is && (one && (em || (two && decide (a ≤ b))))))) ∧ Below w.heap.size w w' := by
  go_enter Tryd.func32, Tryd.ntmps32
  go_wp2_with fail
  refine (H1.out _).mono ?_
  rintro e w1 ⟨rfl, hd⟩
  have HB1 := Aside0.mk hd.below
  clear hd H1
  go_wp2_with fail
  refine (H2.out _).mono ?_
  rintro e w2 ⟨rfl, hb2⟩
  have HB2 := Aside0.mk (below_then HB1.out HB1.out.size hb2)
  clear hb2 HB1 H2
  go_wp2_with fail
  refine (H3.out _).mono ?_
  rintro e w3 ⟨rfl, hb3⟩
  have HB3 := Aside0.mk (below_then HB2.out HB2.out.size hb3)
  clear hb3 HB2 H3
  go_wp2_with fail
  refine (H4.out _).mono ?_
  rintro e w4 ⟨rfl, hb4⟩
  have HB4 := Aside0.mk (below_then HB3.out HB3.out.size hb4)
  clear hb4 HB3 H4
  cases ok with
  | false =>
    go_wp2
    go_ret
    exact ⟨rfl, HB4.out⟩
  | true =>
    cases is with
    | false =>
      go_wp2
      go_ret
      exact ⟨rfl, HB4.out⟩
    | true =>
      cases one with
      | false =>
        go_wp2
        go_ret
        exact ⟨rfl, HB4.out⟩
      | true =>
        cases em with
        | true =>
          have hb := HEM.out
          go_wp2
          go_ret
          exact ⟨rfl, HB4.out⟩
        | false =>
          have hb := HEM.out
          cases two with
          | false =>
            go_wp2
            go_ret
            exact ⟨rfl, HB4.out⟩
          | true =>
            go_wp2
            go_ret
            exact ⟨ret_bool (by simp), HB4.out⟩

theorem ranged_cut (s : ByteArray) : ∃ (s1 : ByteArray) (ok : Bool), FunE.strings_CutPrefix.f s (⟨#[98, 121, 116, 101, 115, 61]⟩ : ByteArray) = some (s1, ok) ∧ s1.size ≤ s.size ∧ Plain.rangB s.data.toList = (ok && Plain.rangR s1.data.toList) := by
  have hl := PureE.mlen s
  have h := PureE.cutPrefix_f s (⟨#[98, 121, 116, 101, 115, 61]⟩ : ByteArray)
  rw [show (⟨#[98, 121, 116, 101, 115, 61]⟩ : ByteArray).data.toList = Plain.pBytes from rfl, show (⟨#[98, 121, 116, 101, 115, 61]⟩ : ByteArray).size = 6 from rfl] at h
  by_cases hp : Plain.pBytes.isPrefixOf s.data.toList = true
  · rw [if_pos hp] at h
    exact ⟨_, _, h, by rw [txt_size, List.length_drop]; omega, by unfold Plain.rangB; rw [hp, txt_data]⟩
  · rw [if_neg hp] at h
    exact ⟨_, _, h, Nat.le_refl _, by unfold Plain.rangB; rw [Bool.eq_false_iff.2 hp, Bool.false_and, Bool.false_and]⟩
theorem ranged_any (s : ByteArray) (w : World) (hs : s.size ≤ 1152921504606846976) :
    Calls Tryd.prog 32 #[.string s] w fun e w' => e = .returned (.bool (Plain.rangB s.data.toList)) ∧ Below w.heap.size w w' := by
  obtain ⟨s1, ok, hcp, hsz, hf⟩ := ranged_cut s
  have hl1 := PureE.mlen s1
  have h1 := PureE.upTo_len 45 s1.data.toList
  have h2 := PureE.past_len 45 s1.data.toList
  have hcut := PureE.cut_f s1 45 (by omega)
  have hfr : (txt (Plain.upTo 45 s1.data.toList)).size ≤ 9223372036854775807 := by rw [txt_size]; omega
  have htb : (txt (Plain.past 45 s1.data.toList)).size ≤ 9223372036854775807 := by rw [txt_size]; omega
  have h3 := fun W => number_any (txt (Plain.upTo 45 s1.data.toList)) 1000000000 W hfr
  have h4 := fun W => number_any (txt (Plain.past 45 s1.data.toList)) 1000000000 W htb
  have h5 := PureE.mlist (txt (Plain.past 45 s1.data.toList))
  rw [txt_data] at h5
  simp only [txt_data] at h3 h4
  have hg : Plain.rangR s1.data.toList = (s1.data.toList.contains 45 && ((numB (Plain.upTo 45 s1.data.toList) 1000000000).2 && (((txt (Plain.past 45 s1.data.toList)).toList == []) || ((numB (Plain.past 45 s1.data.toList) 1000000000).2 && decide ((numB (Plain.upTo 45 s1.data.toList) 1000000000).1 ≤ (numB (Plain.past 45 s1.data.toList) 1000000000).1))))) := by rw [h5]; rfl
  rw [hf, hg]
  exact ranged_walk s s1 (txt (Plain.upTo 45 s1.data.toList)) (txt (Plain.past 45 s1.data.toList)) ok (s1.data.toList.contains 45) (numB (Plain.upTo 45 s1.data.toList) 1000000000).2 (numB (Plain.past 45 s1.data.toList) 1000000000).2 _ (numB (Plain.upTo 45 s1.data.toList) 1000000000).1 (numB (Plain.past 45 s1.data.toList) 1000000000).1 w ⟨fun W => FunE.strings_CutPrefix.calls s (⟨#[98, 121, 116, 101, 115, 61]⟩ : ByteArray) s1 ok W hcp⟩ ⟨fun W => FunE.strings_Cut.calls s1 (⟨#[45]⟩ : ByteArray) _ _ _ W hcut⟩ ⟨h3⟩ ⟨h4⟩ ⟨rfl⟩
end Go.Proofs.YtikhboebmmmopaaDoor.Ext
