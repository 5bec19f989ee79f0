/-
  CONTRACTS, proved by hand: safe.Header. Conditions: sizes; the tables of unicode/utf8 where Tabs stands.
-/
import Derived.Test.YtikhboebmmmopaaDoorExtHeader
namespace Go.Proofs.YtikhboebmmmopaaDoor.Ext
open Go.RowKit Go.Proofs.YtikhboebmmmopaaDoorW.PrintWords

def tag (k : List UInt8) : Nat := if k = Plain.nAccept then 0 else if k = Plain.nALang then 1 else if k = Plain.nCLang then 2 else if k = Plain.nCType then 3 else if k = Plain.nRange then 4 else 5
theorem find_at (w : World) (k : List UInt8) : Instr.findNow .string (.string ⟨k.toArray⟩) (entries w).toList 0 = some (match (entries w)[tag k]? with | some e => some (tag k, e.val) | none => none) := by
  rcases Go.MapKept.findNow_spec (d := .string) (k := .string ⟨k.toArray⟩) (by simp [MapKept.IsKey]) (entries w).toList 0 (by intro x hx; simp [entries] at hx; rcases hx with rfl | rfl | rfl | rfl | rfl <;> simp [MapKept.IsKey]) with ⟨h1, h2⟩ | ⟨j, e, h1, h2, h3⟩
  · have hne : ∀ l : List UInt8, (∃ x ∈ (entries w).toList, x.key = .string ⟨l.toArray⟩) → k ≠ l := by
      rintro l ⟨x, hx, e⟩ rfl
      exact h2 x hx e
    have a0 := hne Plain.nAccept ⟨_, List.mem_cons_self .., rfl⟩
    have a1 := hne Plain.nALang ⟨_, List.mem_cons_of_mem _ (List.mem_cons_self ..), rfl⟩
    have a2 := hne Plain.nCLang ⟨_, List.mem_cons_of_mem _ (List.mem_cons_of_mem _ (List.mem_cons_self ..)), rfl⟩
    have a3 := hne Plain.nCType ⟨_, List.mem_cons_of_mem _ (List.mem_cons_of_mem _ (List.mem_cons_of_mem _ (List.mem_cons_self ..))), rfl⟩
    have a4 := hne Plain.nRange ⟨_, List.mem_cons_of_mem _ (List.mem_cons_of_mem _ (List.mem_cons_of_mem _ (List.mem_cons_of_mem _ (List.mem_cons_self ..)))), rfl⟩
    have t5 : tag k = 5 := by
      unfold tag
      rw [if_neg a0, if_neg a1, if_neg a2, if_neg a3, if_neg a4]
    rw [h1, t5]
    rfl
  · have hk : ∀ l : List UInt8, e.key = .string ⟨l.toArray⟩ → k = l := by
      intro l hl
      rw [h3] at hl
      have : (⟨k.toArray⟩ : ByteArray) = ⟨l.toArray⟩ := Value.string.inj hl
      exact txt_inj this
    match j, h2 with
    | 0, h2 =>
      obtain rfl := Option.some.inj h2
      rw [h1, show tag k = 0 from by rw [hk Plain.nAccept rfl]; decide]
      rfl
    | 1, h2 =>
      obtain rfl := Option.some.inj h2
      rw [h1, show tag k = 1 from by rw [hk Plain.nALang rfl]; decide]
      rfl
    | 2, h2 =>
      obtain rfl := Option.some.inj h2
      rw [h1, show tag k = 2 from by rw [hk Plain.nCLang rfl]; decide]
      rfl
    | 3, h2 =>
      obtain rfl := Option.some.inj h2
      rw [h1, show tag k = 3 from by rw [hk Plain.nCType rfl]; decide]
      rfl
    | 4, h2 =>
      obtain rfl := Option.some.inj h2
      rw [h1, show tag k = 4 from by rw [hk Plain.nRange rfl]; decide]
      rfl
    | j + 5, h2 =>
      simp [entries] at h2
def valOf : Option (Nat × Value) → Value
  | some x => x.2
  | none => .nilFunc
theorem run_look2 (W : World) (B : Nat) (es : Array MapEntry) (clock : Nat) (k : ByteArray) (r : Option (Nat × Value)) (h : W.heap[B]? = some (.map es clock)) (hk : Instr.findNow .string (.string k) es.toList 0 = some r) :
    (Instr.lookup 40 (.map (some B)) (.string k) true).run Tryd.prog W = .ok (.tuple #[valOf r, .bool r.isSome]) W := by
  rw [run_look W B es clock k r h hk]
  cases r <;> rfl
def entAt (w : World) (i : Nat) : Option (Nat × Value) := match (entries w)[i]? with | some e => some (i, e.val) | none => none
theorem find_at2 (w : World) (k : List UInt8) : Instr.findNow .string (.string ⟨k.toArray⟩) (entries w).toList 0 = some (entAt w (tag k)) := find_at w k
theorem val_tag (m v : List UInt8) : Plain.valB m v = (if tag m = 0 then !v.any Plain.oddB else if tag m = 1 then v.all Plain.langB else if tag m = 2 then v.all Plain.langB else if tag m = 3 then Plain.contB v else if tag m = 4 then Plain.rangB v else false) := by
  unfold Plain.valB tag
  split
  · rfl
  · split
    · rfl
    · split
      · rfl
      · split
        · rfl
        · split <;> rfl

set_option maxHeartbeats 2000000 in
set_option maxRecDepth 100000 in
theorem header_any (n v : ByteArray) (w : World) (hT : Tabs w) (hn : n.size ≤ 9223372036854775807) (hv : v.size ≤ 1152921504606846976) :
    Calls Tryd.prog 12 #[.string n, .string v] w fun e w' => e = .returned (.bool (Plain.hdr n.data.toList v.data.toList)) ∧ Below w.heap.size w w' := by
  have HG := Aside0.mk (show Plain.hdr n.data.toList v.data.toList = (decide ((v.size : Int) ≤ 128) && Plain.valB (Plain.lower n.data.toList) v.data.toList) from by
    unfold Plain.hdr
    rw [PureE.mlen]
    congr 1
    rw [decide_eq_decide]
    omega)
  rw [HG.out]
  clear HG
  have HV := Aside0.mk (val_tag (Plain.lower n.data.toList) v.data.toList)
  have HF := Aside0.mk (fun W : World => find_at2 W (Plain.lower n.data.toList))
  have HL := Aside0.mk (fun W : World => lower_any n W hn)
  generalize Plain.lower n.data.toList = m at *
  generalize hvl : Plain.valB m v.data.toList = r at *
  have HTW := Aside0.mk hT
  have eg := enters_of Tryd.func37 (by kernel_rfl) rfl
  have eg3 := enters_of Tryd.func31 (by kernel_rfl) rfl
  have eg4 := enters_of Tryd.func32 (by kernel_rfl) rfl
  have HS := Aside0.mk hv
  clear hT hn hvl hv
  go_enter Tryd.func12, Tryd.ntmps12
  go_wp2_with fail
  refine (values_any w).mono ?_
  rintro e w1 ⟨rfl, hM, hU, hO, hb1⟩
  have HM := Aside0.mk hM
  have HU := Aside0.mk hU
  have HO := Aside0.mk hO
  have HB1 := Aside0.mk hb1
  clear hM hU hO hb1
  go_wp2_with fail
  refine (HL.out w1).mono ?_
  rintro e w2 ⟨rfl, hb2⟩
  have hlt : w.heap.size + 1 + 1 < w1.heap.size := (Array.getElem?_eq_some_iff.1 HO.out).1
  have HM2 := Aside0.mk ((hb2.block _ (by omega)).trans HM.out)
  have HU2 := Aside0.mk ((hb2.block _ (by omega)).trans HU.out)
  have HO2 := Aside0.mk ((hb2.block _ (by omega)).trans HO.out)
  have HB2 := Aside0.mk (below_then HB1.out HB1.out.size hb2)
  have HT2 := Aside0.mk (tabs_at HTW.out HB2.out)
  clear hlt hb2 HM HU HO HB1 HL HTW
  have HLK := Aside0.mk (run_look2 w2 (w.heap.size + 1) (entries w) 5 ⟨m.toArray⟩ _ HM2.out (HF.out w))
  have hlk := HLK.out
  clear HLK HM2
  have hv' := HS.out
  have HR := HV
  clear HV
  rcases ht : tag m with _ | _ | _ | _ | _ | k
  · have hr := HR.out
    rw [ht] at hlk hr
    replace hlk : (Instr.lookup 40 (.map (some (w.heap.size + 1))) (.string ⟨m.toArray⟩) true).run Tryd.prog w2 = .ok (.tuple #[Value.func (Fn.func 37) #[] #[.pointer (some ⟨w.heap.size + 1 + 1, 0, none⟩)], .bool true]) w2 := hlk
    replace hr : r = (!v.data.toList.any Plain.oddB) := hr
    have hcall := withoutOdd_any ⟨w.heap.size + 1 + 1, 0, none⟩ v w2 (by omega) (by unfold World.cell?; simp only [HO2.out]; rfl)
    rw [← hr] at hcall
    have HC := Aside0.mk hcall
    clear hcall hr HR ht hv' HS HT2 HU2 HO2 HF
    by_cases h128 : (v.size : Int) ≤ 128
    · have HD := Aside0.mk (decide_eq_true h128)
      go_wp2_with fail
      refine HC.out.mono ?_
      rintro e w3 ⟨rfl, hb3⟩
      have HB3 := Aside0.mk (below_then HB2.out HB2.out.size hb3)
      clear hb3 HC
      go_wp2
      go_ret
      exact ⟨by rw [HD.out]; rfl, HB3.out⟩
    · have HD := Aside0.mk (decide_eq_false h128)
      clear HC
      go_wp2
      go_ret
      exact ⟨by rw [HD.out]; rfl, HB2.out⟩
  · have hr := HR.out
    rw [ht] at hlk hr
    replace hlk : (Instr.lookup 40 (.map (some (w.heap.size + 1))) (.string ⟨m.toArray⟩) true).run Tryd.prog w2 = .ok (.tuple #[Value.func (Fn.func 37) #[] #[.pointer (some ⟨w.heap.size, 0, none⟩)], .bool true]) w2 := hlk
    replace hr : r = (v.data.toList.all Plain.langB) := hr
    have hcall := withoutLang_any ⟨w.heap.size, 0, none⟩ v w2 (by omega) (by unfold World.cell?; simp only [HU2.out]; rfl)
    rw [← hr] at hcall
    have HC := Aside0.mk hcall
    clear hcall hr HR ht hv' HS HT2 HU2 HO2 HF
    by_cases h128 : (v.size : Int) ≤ 128
    · have HD := Aside0.mk (decide_eq_true h128)
      go_wp2_with fail
      refine HC.out.mono ?_
      rintro e w3 ⟨rfl, hb3⟩
      have HB3 := Aside0.mk (below_then HB2.out HB2.out.size hb3)
      clear hb3 HC
      go_wp2
      go_ret
      exact ⟨by rw [HD.out]; rfl, HB3.out⟩
    · have HD := Aside0.mk (decide_eq_false h128)
      clear HC
      go_wp2
      go_ret
      exact ⟨by rw [HD.out]; rfl, HB2.out⟩
  · have hr := HR.out
    rw [ht] at hlk hr
    replace hlk : (Instr.lookup 40 (.map (some (w.heap.size + 1))) (.string ⟨m.toArray⟩) true).run Tryd.prog w2 = .ok (.tuple #[Value.func (Fn.func 37) #[] #[.pointer (some ⟨w.heap.size, 0, none⟩)], .bool true]) w2 := hlk
    replace hr : r = (v.data.toList.all Plain.langB) := hr
    have hcall := withoutLang_any ⟨w.heap.size, 0, none⟩ v w2 (by omega) (by unfold World.cell?; simp only [HU2.out]; rfl)
    rw [← hr] at hcall
    have HC := Aside0.mk hcall
    clear hcall hr HR ht hv' HS HT2 HU2 HO2 HF
    by_cases h128 : (v.size : Int) ≤ 128
    · have HD := Aside0.mk (decide_eq_true h128)
      go_wp2_with fail
      refine HC.out.mono ?_
      rintro e w3 ⟨rfl, hb3⟩
      have HB3 := Aside0.mk (below_then HB2.out HB2.out.size hb3)
      clear hb3 HC
      go_wp2
      go_ret
      exact ⟨by rw [HD.out]; rfl, HB3.out⟩
    · have HD := Aside0.mk (decide_eq_false h128)
      clear HC
      go_wp2
      go_ret
      exact ⟨by rw [HD.out]; rfl, HB2.out⟩
  · have hr := HR.out
    rw [ht] at hlk hr
    replace hlk : (Instr.lookup 40 (.map (some (w.heap.size + 1))) (.string ⟨m.toArray⟩) true).run Tryd.prog w2 = .ok (.tuple #[Value.func (Fn.func 31) #[] #[], .bool true]) w2 := hlk
    replace hr : r = (Plain.contB v.data.toList) := hr
    have hcall := content_any v w2 HT2.out hv'
    rw [← hr] at hcall
    have HC := Aside0.mk hcall
    clear hcall hr HR ht hv' HS HT2 HU2 HO2 HF
    by_cases h128 : (v.size : Int) ≤ 128
    · have HD := Aside0.mk (decide_eq_true h128)
      go_wp2_with fail
      refine HC.out.mono ?_
      rintro e w3 ⟨rfl, hb3⟩
      have HB3 := Aside0.mk (below_then HB2.out HB2.out.size hb3)
      clear hb3 HC
      go_wp2
      go_ret
      exact ⟨by rw [HD.out]; rfl, HB3.out⟩
    · have HD := Aside0.mk (decide_eq_false h128)
      clear HC
      go_wp2
      go_ret
      exact ⟨by rw [HD.out]; rfl, HB2.out⟩
  · have hr := HR.out
    rw [ht] at hlk hr
    replace hlk : (Instr.lookup 40 (.map (some (w.heap.size + 1))) (.string ⟨m.toArray⟩) true).run Tryd.prog w2 = .ok (.tuple #[Value.func (Fn.func 32) #[] #[], .bool true]) w2 := hlk
    replace hr : r = (Plain.rangB v.data.toList) := hr
    have hcall := ranged_any v w2 hv'
    rw [← hr] at hcall
    have HC := Aside0.mk hcall
    clear hcall hr HR ht hv' HS HT2 HU2 HO2 HF
    by_cases h128 : (v.size : Int) ≤ 128
    · have HD := Aside0.mk (decide_eq_true h128)
      go_wp2_with fail
      refine HC.out.mono ?_
      rintro e w3 ⟨rfl, hb3⟩
      have HB3 := Aside0.mk (below_then HB2.out HB2.out.size hb3)
      clear hb3 HC
      go_wp2
      go_ret
      exact ⟨by rw [HD.out]; rfl, HB3.out⟩
    · have HD := Aside0.mk (decide_eq_false h128)
      clear HC
      go_wp2
      go_ret
      exact ⟨by rw [HD.out]; rfl, HB2.out⟩
  · have hr := HR.out
    rw [ht] at hlk hr
    replace hlk : (Instr.lookup 40 (.map (some (w.heap.size + 1))) (.string ⟨m.toArray⟩) true).run Tryd.prog w2 = .ok (.tuple #[Value.nilFunc, .bool false]) w2 := hlk
    replace hr : r = false := hr
    have hr' : (decide ((v.size : Int) ≤ 128) && r) = false := by rw [hr, Bool.and_false]
    have HR' := Aside0.mk hr'
    clear hr hr' HR ht hv' HS HT2 HU2 HO2 HF
    go_wp2
    go_ret
    exact ⟨by rw [HR'.out]; rfl, HB2.out⟩

def safe_Header.f (a0 : ByteArray) (a1 : ByteArray) : Option (Bool) := if a0.size ≤ 9223372036854775807 ∧ a1.size ≤ 1152921504606846976 then some (Plain.hdr a0.data.toList a1.data.toList) else none
theorem safe_Header.calls (a0 : ByteArray) (a1 : ByteArray) (r : Bool) (w : World) (hT : Tabs w) (h : safe_Header.f a0 a1 = some r) :
    Calls Tryd.prog 12 #[.string a0, .string a1] w fun e w' => e = .returned (.bool r) ∧ Below w.heap.size w w' := by
  unfold safe_Header.f at h
  split at h
  · rename_i hs
    obtain rfl := Option.some.inj h
    exact header_any a0 a1 w hT hs.1 hs.2
  · cases h
end Go.Proofs.YtikhboebmmmopaaDoor.Ext
