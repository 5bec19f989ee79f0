-- Written by xprint.py, a program of this session's, by means of the kit's print. Not trusted: Lean checks it.
import Derived.Test.YtkljbmomafeibaaDoorFun0
import Derived.Test.YtkljbmomafeibaaDoorFun1xL
namespace Go.Proofs.YtkljbmomafeibaaDoor.Fun
open Go.RowKit Go.Proofs.YtkljbmomafeibaaDoorW.PrintWords Go.Proofs.YtkljbmomafeibaaDoorW.PrintLast Go.Proofs.YtkljbmomafeibaaDoorW.PrintMore
attribute [local go_sem] max2_int min2_int max_two min_two max_three min_three max_four min_four   -- for this text's walks alone
set_option linter.unusedVariables false
set_option linter.unusedSimpArgs false

/-! ### mime.Of, by hand: a range over slices.Backward -/
def mime_Of.star : ByteArray := ⟨#[42, 47, 42]⟩
def mime_Of.cnt (s : ByteArray) : Option ByteArray := match mime_Essence.f s with
  | some (e, true) => if e = mime_Of.star then none else some e
  | _ => none
def mime_Of.find (l : List ByteArray) : ByteArray × Bool := match l.reverse.findSome? mime_Of.cnt with
  | some e => (e, true)
  | none => (ByteArray.empty, false)
def mime_Of.f (k : Nat) (l0 : List (S35)) : Option (ByteArray × Bool) := (field_Split.f k l0 ⟨#[99, 111, 110, 116, 101, 110, 116, 45, 116, 121, 112, 101]⟩).bind fun t => if t.1.all (fun s => (mime_Essence.f s).isSome) = true then some (mime_Of.find t.1) else none
theorem mime_Of.mono : ∀ a0 k, LeO (mime_Of.f k a0) (mime_Of.f (k + 1) a0) := by
  intro a0 k
  unfold mime_Of.f
  exact LeO.bind (field_Split.mono _ _ _) (fun _ => LeO.refl _)
abbrev mime_Of.E := { x : Nat × ByteArray // (mime_Essence.f x.2).isSome = true }
def mime_Of.zero : mime_Of.E := ⟨(0, ByteArray.empty), by decide +kernel⟩
def mime_Of.pr (l : List ByteArray) (j : Nat) : mime_Of.E := if h : (mime_Essence.f (l.getD j ByteArray.empty)).isSome = true then ⟨(j, l.getD j ByteArray.empty), h⟩ else mime_Of.zero
theorem mime_Of.pr_at (l : List ByteArray) (hall : l.all (fun s => (mime_Essence.f s).isSome) = true) (j : Nat) (h : j < l.length) : (mime_Of.pr l j).1 = (j, l[j]) := by
  have e : l.getD j ByteArray.empty = l[j] := by rw [List.getD, List.getElem?_eq_getElem h]; rfl
  unfold mime_Of.pr
  have h1 : (mime_Essence.f (l.getD j ByteArray.empty)).isSome = true := by rw [e]; exact List.all_eq_true.1 hall _ (List.getElem_mem h)
  rw [dif_pos h1]
  exact Prod.ext rfl e
theorem mime_Of.star_eq {e : ByteArray} (h : e.toList = [42, 47, 42]) : e = (⟨#[42, 47, 42]⟩ : ByteArray) := by
  have h1 : e.data.toList = [42, 47, 42] := by rw [← h]; exact (Lib.toList_data e).symm
  obtain ⟨⟨l⟩⟩ := e
  have h2 : l = [42, 47, 42] := h1
  rw [h2]
theorem mime_Of.upto_rev (l : List ByteArray) (hall : l.all (fun s => (mime_Essence.f s).isSome) = true) (k : Nat) (hk : k ≤ l.length) : (Ext.upto (fun j => mime_Of.pr l (l.length - 1 - j)) k).map (fun x => x.1.2) = l.reverse.take k := by
  apply List.ext_getElem
  · simp [Ext.upto, hk]
  · intro i h1 h2
    have hi : i < k := by simpa [Ext.upto] using h1
    simp only [Ext.upto, List.getElem_map, List.getElem_range, List.getElem_take, List.getElem_reverse]
    rw [mime_Of.pr_at l hall (l.length - 1 - i) (by omega)]
theorem mime_Of.find_done (l : List ByteArray) (hall : l.all (fun s => (mime_Essence.f s).isSome) = true) (h : ∀ x ∈ Ext.upto (fun j => mime_Of.pr l (l.length - 1 - j)) l.length, mime_Of.cnt x.1.2 = none) : mime_Of.find l = (⟨#[]⟩, false) := by
  have e := mime_Of.upto_rev l hall l.length (Nat.le_refl _)
  rw [← List.length_reverse, List.take_length] at e
  unfold mime_Of.find
  rw [List.findSome?_eq_none_iff.2]
  · rfl
  · intro s hs
    rw [← e] at hs
    obtain ⟨x, hx, rfl⟩ := List.mem_map.1 hs
    rw [List.length_reverse] at hx
    exact h x hx
theorem mime_Of.find_stop (l : List ByteArray) (hall : l.all (fun s => (mime_Essence.f s).isSome) = true) (k : Nat) (hk : k ≤ l.length) (ini : List mime_Of.E) (last : mime_Of.E) (e : ByteArray) (h1 : Ext.upto (fun j => mime_Of.pr l (l.length - 1 - j)) k = ini ++ [last]) (h2 : ∀ x ∈ ini, mime_Of.cnt x.1.2 = none) (h3 : mime_Of.cnt last.1.2 = some e) : mime_Of.find l = (e, true) := by
  have e1 := mime_Of.upto_rev l hall k hk
  rw [h1, List.map_append] at e1
  have e2 : l.reverse = (ini.map (fun x => x.1.2) ++ [last.1.2]) ++ l.reverse.drop k := by
    have := (List.take_append_drop k l.reverse).symm
    rw [← e1] at this
    exact this
  have e3 : (ini.map (fun x => x.1.2)).findSome? mime_Of.cnt = none := by
    rw [List.findSome?_eq_none_iff]
    intro s hs
    obtain ⟨x, hx, rfl⟩ := List.mem_map.1 hs
    exact h2 x hx
  unfold mime_Of.find
  rw [e2, List.findSome?_append, List.findSome?_append, e3]
  simp [h3]
theorem mime_Of.boxed {A B : World} {row : Option Nat} {b : Nat} {t : TypeId} {v : Value} (h : Boxed A b t v) (hg : A.grownBy B row) (hr : ∀ r, row = some r → ∃ o : Obj, A.heap[r]? = some o ∧ o.isCells = false) : Boxed B b t v :=
  h.kept hg (fun e => by
    obtain ⟨o, ho, hc⟩ := hr b e.symm
    rw [show A.heap[b]? = _ from h] at ho
    cases ho
    cases hc)
section
attribute [local go_sem] Oper.semAt_some
set_option maxRecDepth 100000 in
set_option maxHeartbeats 4000000 in
theorem mime_Of.calls (k : Nat) (A0 : Option Addr) (c0 : Nat) (l0 : List (S35)) (r1 : ByteArray) (r2 : Bool) (w : World) (hT : Ext.Tabs w) (hr0 : Kd.C k35 w A0 l0.length l0) (hc0 : l0.length ≤ c0) (h : mime_Of.f k l0 = some (r1, r2)) :
    Calls Tryd.prog 10 #[.slice A0 l0.length c0] w fun e w' => e = .returned (.tuple #[.string r1, .bool r2]) ∧ Below w.heap.size w w' := by
  unfold mime_Of.f at h
  obtain ⟨⟨ps, ok⟩, h1, h⟩ := Option.bind_eq_some_iff.mp h
  dsimp only at h
  split at h
  · rename_i hall
    have hfin := Option.some.inj h
    have HT := Aside0.mk hT
    have HR0 := Aside0.mk hr0
    have HC0 := Aside0.mk hc0
    have H1 := Aside0.mk h1
    have HALL := Aside0.mk hall
    have HFIN := Aside0.mk hfin
    clear hT hr0 hc0 h1 hall hfin h
    refine (callsIn_wide (n := 6)).1 ?_
    refine callsIn_of_wp_marks Tryd.func10 rfl trivial ?_ rfl
    simp only [Tryd.ntmps10, List.size_toArray, List.length_cons, List.length_nil, Nat.reduceAdd, Nat.reduceSub, Array.replicate_succ, Array.replicate_zero, List.push_toArray, List.append_toArray, List.nil_append, List.cons_append]
    gi_wp2_with (first
      | (refine ⟨trivial, ?_⟩; gi_at_call 22; refine (callsIn_wide.2 (field_Split.calls k A0 c0 l0 _ ps ok _ ?hc HC0.out H1.out)).mono ?_; (case hc => exact Kd.C_alloc (Kd.C_alloc HR0.out _) _); rintro e w1 ⟨v1, rfl, hR1, hb1⟩; obtain ⟨Ap, cp, rfl, hcp, hrp⟩ := Kd.R_reads hR1; clear hR1)
      | (refine ⟨trivial, ?_⟩; gi_at_call 23; refine (Ext.backward_in Fence.wide _ trivial rfl _ _ _ _).mono ?_; rintro e w' ⟨rfl, rfl⟩))
    have h1n : 1 ≤ 6 := by omega
    have b2 : Boxed w1 w.heap.size 9 (.string ⟨#[]⟩) := (hb1.block _ (by simp; omega)).trans ((Boxed.new w 9 _).alloc _)
    have b3 : Boxed w1 (w.heap.size + 1) 4 (.bool false) := (hb1.block _ (by simp)).trans (by have := Boxed.new (w.alloc (.cells #[Value.string ⟨#[]⟩] 9)) 4 (.bool false); rwa [World.size_alloc] at this)
    have hbw : Below w.heap.size w w1 := (((Below.refl _ w).alloc (Nat.le_refl _) _).alloc (by simp) _).trans (hb1.mono (by simp; omega))
    obtain ⟨W0, hW0⟩ : ∃ W0, W0 = w1.alloc (Obj.cells #[Value.slice Ap ps.length cp] 41) := ⟨_, rfl⟩
    have hBs : W0.cell? ⟨w1.heap.size, 0, none⟩ = some (.slice Ap ps.length cp) := by rw [hW0]; simp
    have hB0 : w1.heap.size < W0.heap.size := by rw [hW0]; simp
    have hrW : Kd.C Kd.string W0 Ap ps.length ps := by rw [hW0]; exact Kd.C_alloc hrp _
    have b20 : Boxed W0 w.heap.size 9 (.string ⟨#[]⟩) := by rw [hW0]; exact b2.alloc _
    have b30 : Boxed W0 (w.heap.size + 1) 4 (.bool false) := by rw [hW0]; exact b3.alloc _
    have hbW : Below w.heap.size w W0 := by rw [hW0]; exact hbw.alloc hbw.size _
    have hsz : w.heap.size + 2 ≤ w1.heap.size := by have := hb1.size; simp at this; omega
    rw [← hW0]
    clear hW0 hb1 b2 b3 hbw hcp hrp
    refine wpIn_rangeFunc_ownG (w := W0) rfl h1n (gf := 35) (lb := #[.pointer (some ⟨w1.heap.size, 0, none⟩)]) rfl trivial (enters_of Tryd.func35 (by kernel_rfl) rfl)
      (Ext.backward_stops (α := mime_Of.E) Fence.wide 5 trivial rfl (by omega) w1.heap.size cp Ap ps (fun x => #[.int .i64 (x.1.1 : Int), .string x.1.2]) (mime_Of.pr ps) (fun j hj => by simp only [mime_Of.pr_at ps HALL.out j hj]) W0 hBs hB0 hrW) belowK_t (belowK_b (Nat.le_refl _)) (Below.refl _ _) (fun _ => rfl)
      (fun pre W => (∀ x ∈ pre, mime_Of.cnt x.1.2 = none) ∧ Below W0.heap.size W0 W)
      (fun c pre W => (c = .ret ∧ ∃ ini last e, pre = ini ++ [last] ∧ (∀ x ∈ ini, mime_Of.cnt x.1.2 = none) ∧ mime_Of.cnt last.1.2 = some e ∧ Boxed W w.heap.size 9 (.string e) ∧ Boxed W (w.heap.size + 1) 4 (.bool true)) ∧ Below w.heap.size w W)
      (OwnFrom.and (ownFrom_pure _ _) (ownFrom_below (Nat.le_refl _) (Nat.le_refl _)))
      (fun c => OwnFrom.and (Own.from (fun s A B row hs hg hr => by obtain ⟨hc, ini, last, e, e1, e2, e3, e4, e5⟩ := hs; exact ⟨hc, ini, last, e, e1, e2, e3, mime_Of.boxed e4 hg hr, mime_Of.boxed e5 hg hr⟩) _) (ownFrom_below (Nat.le_refl _) hbW.size))
      ⟨by simp, Below.refl _ _⟩
      (fun x => { tmps := #[.slice A0 l0.length c0, undef, .pointer (some ⟨w.heap.size, 0, none⟩), .pointer (some ⟨w.heap.size + 1, 0, none⟩), .slice Ap ps.length cp, .bool ok, undef, .string x.1.2, undef, undef, .tuple #[.slice Ap ps.length cp, .bool ok], .slice A0 l0.length c0, .tuple #[.slice Ap ps.length cp, .bool ok], .slice Ap ps.length cp, .bool ok, .slice Ap ps.length cp, .func (.func 35) #[] #[.pointer (some ⟨w1.heap.size, 0, none⟩)], .int .i64 (x.1.1 : Int), .string x.1.2, undef, undef, undef, undef, undef, undef, undef, undef, undef, undef, undef], defers := [] }) ?assign ?body ?done ?stop
    case assign =>
      intro l x W K hK
      gi_wp2
      exact hK
    case body =>
      rintro l pre x W ⟨hp, hB⟩ _
      obtain ⟨⟨e1, e2⟩, he⟩ : ∃ t, mime_Essence.f x.1.2 = some t := Option.isSome_iff_exists.1 x.2
      have hcnt : mime_Of.cnt x.1.2 = if e2 = true ∧ e1 ≠ mime_Of.star then some e1 else none := by
        unfold mime_Of.cnt
        rw [he]
        cases e2 with
        | false => rfl
        | true =>
          by_cases h : e1 = mime_Of.star
          · simp [h]
          · simp [h]
      have HE := Aside0.mk he
      have HCN := Aside0.mk hcnt
      have HP := Aside0.mk hp
      have HBW := Aside0.mk (hbW.trans (hB.mono hbW.size))
      have hsW := hB.size
      clear he hcnt hp
      have stay : ∀ (W2 : World), Below W.heap.size W W2 → mime_Of.cnt x.1.2 = none → KeepsFrom W0.heap.size W W2 ∧ Below W0.heap.size W W2 ∧ (∀ y ∈ pre ++ [x], mime_Of.cnt y.1.2 = none) ∧ Below W0.heap.size W0 W2 := by
        intro W2 h2 hc
        refine ⟨⟨h2.size, fun k o _ hk _ => (h2.block k (Array.getElem?_eq_some_iff.1 hk).1).trans hk⟩, h2.mono hsW, ?_, hB.trans (h2.mono hsW)⟩
        intro y hy
        rcases List.mem_append.1 hy with hy | hy
        · exact HP.out y hy
        · obtain rfl := List.mem_singleton.1 hy
          exact hc
      have STAY := Aside0.mk stay
      have B20 := Aside0.mk b20
      have B30 := Aside0.mk b30
      clear stay
      cases e2 with
      | false =>
        gi_wp2_with (refine ⟨trivial, ?_⟩; gi_at_call 8; refine (CallsIn.inRound l (callsIn_wide.2 (mime_Essence.calls x.1.2 e1 false _ (Ext.tabs_at HT.out HBW.out) HE.out))).mono ?_; rintro e w2 ⟨rfl, hb2⟩)
        exact STAY.out w2 hb2 (by rw [HCN.out]; simp)
      | true =>
        by_cases hst : e1 = mime_Of.star
        · have hst' : e1 = (⟨#[42, 47, 42]⟩ : ByteArray) := hst
          subst hst'
          gi_wp2_with (refine ⟨trivial, ?_⟩; gi_at_call 8; refine (CallsIn.inRound l (callsIn_wide.2 (mime_Essence.calls x.1.2 _ true _ (Ext.tabs_at HT.out HBW.out) HE.out))).mono ?_; rintro e w2 ⟨rfl, hb2⟩)
          exact STAY.out w2 hb2 (by rw [HCN.out, if_neg]; exact fun h => h.2 rfl)
        · have hst' : ¬ e1 = (⟨#[42, 47, 42]⟩ : ByteArray) := hst
          have HST := Aside0.mk hst
          clear hst
          gi_wp2_with (refine ⟨trivial, ?_⟩; gi_at_call 8; refine (CallsIn.inRound l (callsIn_wide.2 (mime_Essence.calls x.1.2 _ true _ (Ext.tabs_at HT.out HBW.out) HE.out))).mono ?_; rintro e w2 ⟨rfl, hb2⟩; have B2 : Boxed w2 w.heap.size 9 (.string ⟨#[]⟩) := (hb2.block _ (by omega)).trans ((hB.block _ (by omega)).trans B20.out); have B3 : Boxed w2 (w.heap.size + 1) 4 (.bool false) := (hb2.block _ (by omega)).trans ((hB.block _ (by omega)).trans B30.out); have c2 := B2.cell; have f2 := B2.frozen; have c3 := B3.cell; have f3 := B3.frozen)
          · refine ⟨KeepsFrom.trans ⟨hb2.size, fun k o _ hk _ => (hb2.block k (Array.getElem?_eq_some_iff.1 hk).1).trans hk⟩ (((KeepsOthers.setCell _ _ _).from _).trans ((KeepsOthers.setCell _ _ _).from _)), ⟨rfl, pre, x, e1, rfl, HP.out, by rw [HCN.out, if_pos ⟨trivial, HST.out⟩], (B2.set (.string e1)).other (by omega) _, (B3.other (by omega) _).set (.bool true)⟩, ?_⟩
            exact ((HBW.out.trans (hb2.mono HBW.out.size)).setCell (p := ⟨w.heap.size, 0, none⟩) (Nat.le_refl _) _).setCell (p := ⟨w.heap.size + 1, 0, none⟩) (Nat.le_succ _) _
          · rename_i hf
            exfalso
            apply hst'
            refine mime_Of.star_eq ?_
            simpa using hf
    case done =>
      rintro D ys W hD rfl ⟨hne, hB⟩ hK
      have B2 : Boxed W w.heap.size 9 (.string ⟨#[]⟩) := (hB.block _ (by omega)).trans b20
      have B3 : Boxed W (w.heap.size + 1) 4 (.bool false) := (hB.block _ (by omega)).trans b30
      have c2 := B2.cell
      have f2 := B2.frozen
      have c3 := B3.cell
      have f3 := B3.frozen
      have HNE := Aside0.mk hne
      have HBW := Aside0.mk (hbW.trans (hB.mono hbW.size))
      clear hne
      gi_wp2
      have hK' := (KeepsOthers.setCell (W.setCell ⟨w.heap.size, 0, none⟩ (.string ⟨#[]⟩)) ⟨w.heap.size + 1, 0, none⟩ (.bool false)).same D _ ((KeepsOthers.setCell W ⟨w.heap.size, 0, none⟩ (.string ⟨#[]⟩)).same D _ hK rfl) rfl
      refine ⟨by simp, .inl ⟨_, _, rfl, run_takeDeferred hK', ?_⟩⟩
      have q2 := cell_kept ((B2.set (.string ⟨#[]⟩)).other (show w.heap.size ≠ w.heap.size + 1 by omega) (.bool false)).cell (grownBy_putObj' _ D (.deferred none)) (fun r e => by cases e; exact ⟨_, hK', rfl⟩)
      have q3 := cell_kept ((B3.other (show w.heap.size + 1 ≠ w.heap.size by omega) (.string ⟨#[]⟩)).set (.bool false)).cell (grownBy_putObj' _ D (.deferred none)) (fun r e => by cases e; exact ⟨_, hK', rfl⟩)
      have hf := HFIN.out
      rw [mime_Of.find_done ps HALL.out HNE.out, Prod.mk.injEq] at hf
      obtain ⟨rfl, rfl⟩ := hf
      refine ⟨.tuple #[.string ⟨#[]⟩, .bool false], ?_, rfl, (((HBW.out.setCell (p := ⟨w.heap.size, 0, none⟩) (Nat.le_refl _) _).setCell (p := ⟨w.heap.size + 1, 0, none⟩) (Nat.le_succ _) _).trans (belowK_b (w := W0) hbW.size _ D _ _ hD hK' rfl rfl))⟩
      simp [results, Tryd.f10, go_sem, q2, q3]
    case stop =>
      rintro D c pre W hD ⟨k', hk', rfl⟩ ⟨⟨rfl, ini, last, e, e1, e2, e3, B2, B3⟩, hB⟩ hK
      gi_wp2
      refine ⟨by simp, .inl ⟨_, _, rfl, run_takeDeferred hK, ?_⟩⟩
      have q2 := cell_kept B2.cell (grownBy_putObj' _ D (.deferred none)) (fun r e => by cases e; exact ⟨_, hK, rfl⟩)
      have q3 := cell_kept B3.cell (grownBy_putObj' _ D (.deferred none)) (fun r e => by cases e; exact ⟨_, hK, rfl⟩)
      have hf := HFIN.out
      rw [mime_Of.find_stop ps HALL.out k' hk' ini last e e1 e2 e3, Prod.mk.injEq] at hf
      obtain ⟨rfl, rfl⟩ := hf
      refine ⟨.tuple #[.string e, .bool true], ?_, rfl, hB.trans (belowK_b (w := W0) hbW.size W D _ _ hD hK rfl rfl)⟩
      simp [results, Tryd.f10, go_sem, q2, q3]
  · cases h
end

/-! ### transeptlaw11_shown: function 7 -/
def transeptlaw11_shown.f (k : Nat)  : Option (Bool) := (mime_Essence.f (⟨#[84, 101, 120, 116, 47, 72, 84, 77, 76, 59, 32, 99, 104, 97, 114, 115, 101, 116, 61, 120]⟩ : ByteArray)).bind fun bt140 => ((mime_Essence.f (⟨#[116, 101, 120, 116]⟩ : ByteArray)).bind fun bt142 => ((mime_Of.f k (([(⟨(⟨#[67, 111, 110, 116, 101, 110, 116, 45, 84, 121, 112, 101]⟩ : ByteArray), (⟨#[97, 47, 98, 44, 32, 42, 47, 42]⟩ : ByteArray)⟩ : S35)] : List (S35)))).bind fun bt147 => (if bt140.1.toList = ([116, 101, 120, 116, 47, 104, 116, 109, 108] : List UInt8) then (if bt140.2 = true then (if bt142.2 = true then (some false) else (if bt147.1.toList = ([97, 47, 98] : List UInt8) then (some bt147.2) else (some false))) else (some false)) else (some false))))
theorem transeptlaw11_shown.mono : ∀ k, LeO (transeptlaw11_shown.f k ) (transeptlaw11_shown.f (k + 1) ) := by
  intro  k
  unfold transeptlaw11_shown.f
  repeat' first
      | (with_reducible exact mime_Of.mono _ _)
      | (with_reducible exact LeO.refl _)
      | (with_reducible exact LeO.none _)
      | (with_reducible refine LeO.ite ?_ ?_)
      | (with_reducible refine LeO.bind ?_ (fun _ => ?_))
      | exact mime_Of.mono _ _
      | exact LeO.none _
      | refine LeO.ite ?_ ?_
      | refine LeO.bind ?_ (fun _ => ?_)
set_option maxHeartbeats 8000000 in
set_option maxRecDepth 100000 in
theorem transeptlaw11_shown.calls (k : Nat)  (r : Bool) (w : World) (hT : Ext.Tabs w) (h : transeptlaw11_shown.f k  = some r) :
    Calls Tryd.prog 7 #[] w fun e w' => e = .returned (.bool r) ∧ Below w.heap.size w w' := by
  have hu35 := Tryd.underlying35
  have HB := Aside0.mk (Below.refl w.heap.size w)
  have HT := Aside0.mk hT
  clear hT
  have H : ((mime_Essence.f (⟨#[84, 101, 120, 116, 47, 72, 84, 77, 76, 59, 32, 99, 104, 97, 114, 115, 101, 116, 61, 120]⟩ : ByteArray)).bind fun bt140 => ((mime_Essence.f (⟨#[116, 101, 120, 116]⟩ : ByteArray)).bind fun bt142 => ((mime_Of.f k (([(⟨(⟨#[67, 111, 110, 116, 101, 110, 116, 45, 84, 121, 112, 101]⟩ : ByteArray), (⟨#[97, 47, 98, 44, 32, 42, 47, 42]⟩ : ByteArray)⟩ : S35)] : List (S35)))).bind fun bt147 => (if bt140.1.toList = ([116, 101, 120, 116, 47, 104, 116, 109, 108] : List UInt8) then (if bt140.2 = true then (if bt142.2 = true then (some false) else (if bt147.1.toList = ([97, 47, 98] : List UInt8) then (some bt147.2) else (some false))) else (some false)) else (some false))))) = some r := h
  clear h
  replace H := Option.bind_eq_some_iff.mp H
  obtain ⟨⟨t140, t141⟩, A10, H⟩ := H
  replace H : ((mime_Essence.f (⟨#[116, 101, 120, 116]⟩ : ByteArray)).bind fun bt142 => ((mime_Of.f k (([(⟨(⟨#[67, 111, 110, 116, 101, 110, 116, 45, 84, 121, 112, 101]⟩ : ByteArray), (⟨#[97, 47, 98, 44, 32, 42, 47, 42]⟩ : ByteArray)⟩ : S35)] : List (S35)))).bind fun bt147 => (if t140.toList = ([116, 101, 120, 116, 47, 104, 116, 109, 108] : List UInt8) then (if t141 = true then (if bt142.2 = true then (some false) else (if bt147.1.toList = ([97, 47, 98] : List UInt8) then (some bt147.2) else (some false))) else (some false)) else (some false)))) = some r := H
  have A1 := Aside0.mk A10
  clear A10
  replace H := Option.bind_eq_some_iff.mp H
  obtain ⟨⟨t142, t143⟩, A20, H⟩ := H
  replace H : ((mime_Of.f k (([(⟨(⟨#[67, 111, 110, 116, 101, 110, 116, 45, 84, 121, 112, 101]⟩ : ByteArray), (⟨#[97, 47, 98, 44, 32, 42, 47, 42]⟩ : ByteArray)⟩ : S35)] : List (S35)))).bind fun bt147 => (if t140.toList = ([116, 101, 120, 116, 47, 104, 116, 109, 108] : List UInt8) then (if t141 = true then (if t143 = true then (some false) else (if bt147.1.toList = ([97, 47, 98] : List UInt8) then (some bt147.2) else (some false))) else (some false)) else (some false))) = some r := H
  have A2 := Aside0.mk A20
  clear A20
  obtain ⟨y144, hy144⟩ : ∃ y_ : List (S35), y_ = (([(⟨(⟨#[67, 111, 110, 116, 101, 110, 116, 45, 84, 121, 112, 101]⟩ : ByteArray), (⟨#[97, 47, 98, 44, 32, 42, 47, 42]⟩ : ByteArray)⟩ : S35)] : List (S35))) := ⟨_, rfl⟩
  replace H : ((mime_Of.f k y144).bind fun bt147 => (if t140.toList = ([116, 101, 120, 116, 47, 104, 116, 109, 108] : List UInt8) then (if t141 = true then (if t143 = true then (some false) else (if bt147.1.toList = ([97, 47, 98] : List UInt8) then (some bt147.2) else (some false))) else (some false)) else (some false))) = some r := by first | (rw [hy144]; with_reducible exact H) | (have H2_ := (Option.bind_some _ _).symm.trans H; rw [hy144]; with_reducible exact H2_) | (have H2_ := (Option.bind_some _ _).symm.trans H; with_reducible exact H2_) | with_reducible exact H | (rw [hy144]; exact H) | exact H
  have Ny144 := Aside0.mk hy144
  clear hy144
  replace H := Option.bind_eq_some_iff.mp H
  obtain ⟨⟨t147, t148⟩, A30, H⟩ := H
  replace H : (if t140.toList = ([116, 101, 120, 116, 47, 104, 116, 109, 108] : List UInt8) then (if t141 = true then (if t143 = true then (some false) else (if t147.toList = ([97, 47, 98] : List UInt8) then (some t148) else (some false))) else (some false)) else (some false)) = some r := H
  have A3 := Aside0.mk A30
  clear A30
  by_cases c4 : t140.toList = ([116, 101, 120, 116, 47, 104, 116, 109, 108] : List UInt8)
  · rw [if_pos c4] at H
    have c4b0 : (t140.toList == ([116, 101, 120, 116, 47, 104, 116, 109, 108] : List UInt8)) = true := beq_iff_eq.mpr c4
    have c4b1 : (t140.toList != ([116, 101, 120, 116, 47, 104, 116, 109, 108] : List UInt8)) = false := bne_eq_false_iff_eq.mpr c4
    clear c4
    by_cases c5 : t141 = true
    · subst c5
      have H1 : (if t143 = true then (some false) else (if t147.toList = ([97, 47, 98] : List UInt8) then (some t148) else (some false))) = some r := by rw [if_pos rfl] at H; exact H
      clear H
      have H := H1
      clear H1
      by_cases c6 : t143 = true
      · subst c6
        have H1 : (some false) = some r := by rw [if_pos rfl] at H; exact H
        clear H
        have H := H1
        clear H1
        obtain rfl := Option.some.inj H
        go_enter Tryd.func7, Tryd.ntmps7
        go_wp2_with (first | ((with_reducible refine gate_callee (f := 8) rfl ?_); refine goesL_ (some 8) rfl rfl Tryd.func8 (by kernel_rfl) rfl #[.string (⟨#[84, 101, 120, 116, 47, 72, 84, 77, 76, 59, 32, 99, 104, 97, 114, 115, 101, 116, 61, 120]⟩ : ByteArray)] rfl (by (try simp only [List.map_toArray, List.map_cons, List.map_nil]); first | done | rfl | (simp only [List.length_drop, List.length_take]; rfl)) ?_; (with_reducible refine (mime_Essence.calls (⟨#[84, 101, 120, 116, 47, 72, 84, 77, 76, 59, 32, 99, 104, 97, 114, 115, 101, 116, 61, 120]⟩ : ByteArray) t140 true _ ?side1 A1.out).mono ?_); (case side1 => exact Ext.tabs_at HT.out (by repeat (first | (with_reducible first | exact HB.out | apply below_alloc | apply pw_below_drewN | apply below_drew1) | exact HB.out))); rintro e w7 ⟨rfl, hb⟩; refine ⟨_, rfl, ?_⟩; have n0_ := Aside0.mk (below_step (by repeat (first | (with_reducible first | exact HB.out | apply below_alloc | apply pw_below_drewN | apply below_drew1) | exact HB.out)) hb); clear HB; have HB := n0_; clear n0_; (try clear hb); (try clear hb2); (try clear hk); (try clear hi)) | ((with_reducible refine gate_callee (f := 8) rfl ?_); refine goesL_ (some 12) rfl rfl Tryd.func8 (by kernel_rfl) rfl #[.string (⟨#[116, 101, 120, 116]⟩ : ByteArray)] rfl (by (try simp only [List.map_toArray, List.map_cons, List.map_nil]); first | done | rfl | (simp only [List.length_drop, List.length_take]; rfl)) ?_; (with_reducible refine (mime_Essence.calls (⟨#[116, 101, 120, 116]⟩ : ByteArray) t142 true _ ?side1 A2.out).mono ?_); (case side1 => exact Ext.tabs_at HT.out (by repeat (first | (with_reducible first | exact HB.out | apply below_alloc | apply pw_below_drewN | apply below_drew1) | exact HB.out))); rintro e w8 ⟨rfl, hb⟩; refine ⟨_, rfl, ?_⟩; have n0_ := Aside0.mk (below_step (by repeat (first | (with_reducible first | exact HB.out | apply below_alloc | apply pw_below_drewN | apply below_drew1) | exact HB.out)) hb); clear HB; have HB := n0_; clear n0_; (try clear hb); (try clear hb2); (try clear hk); (try clear hi)) | ((with_reducible refine gate_dst (N := 17) rfl ?_); refine Kd.R_lit k35 _ 35 ?hg (N := 17) ?hd (xs := ([(⟨(⟨#[67, 111, 110, 116, 101, 110, 116, 45, 84, 121, 112, 101]⟩ : ByteArray), (⟨#[97, 47, 98, 44, 32, 42, 47, 42]⟩ : ByteArray)⟩ : S35)] : List (S35))) (inner := [.string (⟨#[67, 111, 110, 116, 101, 110, 116, 45, 84, 121, 112, 101]⟩ : ByteArray), .string (⟨#[97, 47, 98, 44, 32, 42, 47, 42]⟩ : ByteArray)]) (ok := fun _ => True) (okp := fun _ => True) ?hr ?hp (fun _ hk => hk) trivial (Below.refl _ _) (Nat.le_refl _) (by simp) ?_; (case hd => rfl); (case hg => rfl); (case hr => first | (go_simp; done) | (go_simp; rfl)); (case hp => exact (Reps.c2 (show Kd.M k35 _ _ _ (⟨(⟨#[67, 111, 110, 116, 101, 110, 116, 45, 84, 121, 112, 101]⟩ : ByteArray), (⟨#[97, 47, 98, 44, 32, 42, 47, 42]⟩ : ByteArray)⟩ : S35) [.string (⟨#[67, 111, 110, 116, 101, 110, 116, 45, 84, 121, 112, 101]⟩ : ByteArray), .string (⟨#[97, 47, 98, 44, 32, 42, 47, 42]⟩ : ByteArray)] from (k35_mkM _ _ _ (⟨(⟨#[67, 111, 110, 116, 101, 110, 116, 45, 84, 121, 112, 101]⟩ : ByteArray), (⟨#[97, 47, 98, 44, 32, 42, 47, 42]⟩ : ByteArray)⟩ : S35) )) (Reps.none _ _))); intro v145 w9 ho10 hb hg_ hnew_; clear hg_ hnew_; (first | rw [← Ny144.out] at ho10 | (simp only [Int.reduceToNat] at ho10; rw [← Ny144.out] at ho10)); have n0_ := Aside0.mk (Kd.R_lower ho10 (below_size (by repeat (first | (with_reducible first | exact HB.out | apply below_alloc | apply pw_below_drewN | apply below_drew1) | exact HB.out)))); have n1_ := Aside0.mk (below_step (by repeat (first | (with_reducible first | exact HB.out | apply below_alloc | apply pw_below_drewN | apply below_drew1) | exact HB.out)) hb); clear HB; have HO146 := n0_; have HB := n1_; clear n0_ n1_; clear hb ho10; obtain ⟨Ao11, co11, eo11⟩ := Kd.R_slice HO146.out; subst eo11) | ((with_reducible refine gate_callee (f := 10) rfl ?_); refine goesL_ (some 18) rfl rfl Tryd.func10 (by kernel_rfl) rfl #[.slice Ao11 y144.length co11] rfl (by (try simp only [List.map_toArray, List.map_cons, List.map_nil]); first | done | rfl | (simp only [List.length_drop, List.length_take]; rfl)) ?_; (with_reducible refine (mime_Of.calls k _ _ y144 t147 t148 _ ?side3 ?side1 ?side2 A3.out).mono ?_); (case side1 => repeat (first | exact (Kd.R_reads' HO146.out).2.2 | (with_reducible refine Kd.C_alloc ?_ _) | (with_reducible refine Kd.C_drewN ?_ _) | (with_reducible refine Kd.C_drew ?_))); (case side2 => exact (Kd.R_reads' HO146.out).2.1); (case side3 => exact Ext.tabs_at HT.out (by repeat (first | (with_reducible first | exact HB.out | apply below_alloc | apply pw_below_drewN | apply below_drew1) | exact HB.out))); rintro e w12 ⟨rfl, hb⟩; refine ⟨_, rfl, ?_⟩; have n0_ := Aside0.mk (Kd.R_below (by (with_reducible repeat (first | apply Kd.R_alloc | apply Kd.R_drewN | apply Kd.R_drew)); exact HO146.out) hb); have n1_ := Aside0.mk (below_step (by repeat (first | (with_reducible first | exact HB.out | apply below_alloc | apply pw_below_drewN | apply below_drew1) | exact HB.out)) hb); clear HO146; clear HB; have HO146 := n0_; have HB := n1_; clear n0_ n1_; (try clear hb); (try clear hb2); (try clear hk); (try clear hi)))
        all_goals (try (exfalso; omega))
        all_goals go_ret
        all_goals exact ⟨by first | rfl | (simp [errW_none, errW_some] <;> rfl) | (simp [*, errW_none, errW_some] <;> rfl), by repeat (first | (with_reducible first | exact HB.out | apply below_alloc | apply pw_below_drewN | apply below_drew1) | exact HB.out)⟩
      · replace c6 := Bool.eq_false_iff.mpr c6
        subst c6
        have H1 : (if t147.toList = ([97, 47, 98] : List UInt8) then (some t148) else (some false)) = some r := by rw [if_neg (show ¬ (false = true) by decide)] at H; exact H
        clear H
        have H := H1
        clear H1
        by_cases c13 : t147.toList = ([97, 47, 98] : List UInt8)
        · rw [if_pos c13] at H
          have c13b0 : (t147.toList == ([97, 47, 98] : List UInt8)) = true := beq_iff_eq.mpr c13
          have c13b1 : (t147.toList != ([97, 47, 98] : List UInt8)) = false := bne_eq_false_iff_eq.mpr c13
          clear c13
          obtain rfl := Option.some.inj H
          go_enter Tryd.func7, Tryd.ntmps7
          go_wp2_with (first | ((with_reducible refine gate_callee (f := 8) rfl ?_); refine goesL_ (some 8) rfl rfl Tryd.func8 (by kernel_rfl) rfl #[.string (⟨#[84, 101, 120, 116, 47, 72, 84, 77, 76, 59, 32, 99, 104, 97, 114, 115, 101, 116, 61, 120]⟩ : ByteArray)] rfl (by (try simp only [List.map_toArray, List.map_cons, List.map_nil]); first | done | rfl | (simp only [List.length_drop, List.length_take]; rfl)) ?_; (with_reducible refine (mime_Essence.calls (⟨#[84, 101, 120, 116, 47, 72, 84, 77, 76, 59, 32, 99, 104, 97, 114, 115, 101, 116, 61, 120]⟩ : ByteArray) t140 true _ ?side1 A1.out).mono ?_); (case side1 => exact Ext.tabs_at HT.out (by repeat (first | (with_reducible first | exact HB.out | apply below_alloc | apply pw_below_drewN | apply below_drew1) | exact HB.out))); rintro e w14 ⟨rfl, hb⟩; refine ⟨_, rfl, ?_⟩; have n0_ := Aside0.mk (below_step (by repeat (first | (with_reducible first | exact HB.out | apply below_alloc | apply pw_below_drewN | apply below_drew1) | exact HB.out)) hb); clear HB; have HB := n0_; clear n0_; (try clear hb); (try clear hb2); (try clear hk); (try clear hi)) | ((with_reducible refine gate_callee (f := 8) rfl ?_); refine goesL_ (some 12) rfl rfl Tryd.func8 (by kernel_rfl) rfl #[.string (⟨#[116, 101, 120, 116]⟩ : ByteArray)] rfl (by (try simp only [List.map_toArray, List.map_cons, List.map_nil]); first | done | rfl | (simp only [List.length_drop, List.length_take]; rfl)) ?_; (with_reducible refine (mime_Essence.calls (⟨#[116, 101, 120, 116]⟩ : ByteArray) t142 false _ ?side1 A2.out).mono ?_); (case side1 => exact Ext.tabs_at HT.out (by repeat (first | (with_reducible first | exact HB.out | apply below_alloc | apply pw_below_drewN | apply below_drew1) | exact HB.out))); rintro e w15 ⟨rfl, hb⟩; refine ⟨_, rfl, ?_⟩; have n0_ := Aside0.mk (below_step (by repeat (first | (with_reducible first | exact HB.out | apply below_alloc | apply pw_below_drewN | apply below_drew1) | exact HB.out)) hb); clear HB; have HB := n0_; clear n0_; (try clear hb); (try clear hb2); (try clear hk); (try clear hi)) | ((with_reducible refine gate_dst (N := 17) rfl ?_); refine Kd.R_lit k35 _ 35 ?hg (N := 17) ?hd (xs := ([(⟨(⟨#[67, 111, 110, 116, 101, 110, 116, 45, 84, 121, 112, 101]⟩ : ByteArray), (⟨#[97, 47, 98, 44, 32, 42, 47, 42]⟩ : ByteArray)⟩ : S35)] : List (S35))) (inner := [.string (⟨#[67, 111, 110, 116, 101, 110, 116, 45, 84, 121, 112, 101]⟩ : ByteArray), .string (⟨#[97, 47, 98, 44, 32, 42, 47, 42]⟩ : ByteArray)]) (ok := fun _ => True) (okp := fun _ => True) ?hr ?hp (fun _ hk => hk) trivial (Below.refl _ _) (Nat.le_refl _) (by simp) ?_; (case hd => rfl); (case hg => rfl); (case hr => first | (go_simp; done) | (go_simp; rfl)); (case hp => exact (Reps.c2 (show Kd.M k35 _ _ _ (⟨(⟨#[67, 111, 110, 116, 101, 110, 116, 45, 84, 121, 112, 101]⟩ : ByteArray), (⟨#[97, 47, 98, 44, 32, 42, 47, 42]⟩ : ByteArray)⟩ : S35) [.string (⟨#[67, 111, 110, 116, 101, 110, 116, 45, 84, 121, 112, 101]⟩ : ByteArray), .string (⟨#[97, 47, 98, 44, 32, 42, 47, 42]⟩ : ByteArray)] from (k35_mkM _ _ _ (⟨(⟨#[67, 111, 110, 116, 101, 110, 116, 45, 84, 121, 112, 101]⟩ : ByteArray), (⟨#[97, 47, 98, 44, 32, 42, 47, 42]⟩ : ByteArray)⟩ : S35) )) (Reps.none _ _))); intro v145 w16 ho17 hb hg_ hnew_; clear hg_ hnew_; (first | rw [← Ny144.out] at ho17 | (simp only [Int.reduceToNat] at ho17; rw [← Ny144.out] at ho17)); have n0_ := Aside0.mk (Kd.R_lower ho17 (below_size (by repeat (first | (with_reducible first | exact HB.out | apply below_alloc | apply pw_below_drewN | apply below_drew1) | exact HB.out)))); have n1_ := Aside0.mk (below_step (by repeat (first | (with_reducible first | exact HB.out | apply below_alloc | apply pw_below_drewN | apply below_drew1) | exact HB.out)) hb); clear HB; have HO146 := n0_; have HB := n1_; clear n0_ n1_; clear hb ho17; obtain ⟨Ao18, co18, eo18⟩ := Kd.R_slice HO146.out; subst eo18) | ((with_reducible refine gate_callee (f := 10) rfl ?_); refine goesL_ (some 18) rfl rfl Tryd.func10 (by kernel_rfl) rfl #[.slice Ao18 y144.length co18] rfl (by (try simp only [List.map_toArray, List.map_cons, List.map_nil]); first | done | rfl | (simp only [List.length_drop, List.length_take]; rfl)) ?_; (with_reducible refine (mime_Of.calls k _ _ y144 t147 t148 _ ?side3 ?side1 ?side2 A3.out).mono ?_); (case side1 => repeat (first | exact (Kd.R_reads' HO146.out).2.2 | (with_reducible refine Kd.C_alloc ?_ _) | (with_reducible refine Kd.C_drewN ?_ _) | (with_reducible refine Kd.C_drew ?_))); (case side2 => exact (Kd.R_reads' HO146.out).2.1); (case side3 => exact Ext.tabs_at HT.out (by repeat (first | (with_reducible first | exact HB.out | apply below_alloc | apply pw_below_drewN | apply below_drew1) | exact HB.out))); rintro e w19 ⟨rfl, hb⟩; refine ⟨_, rfl, ?_⟩; have n0_ := Aside0.mk (Kd.R_below (by (with_reducible repeat (first | apply Kd.R_alloc | apply Kd.R_drewN | apply Kd.R_drew)); exact HO146.out) hb); have n1_ := Aside0.mk (below_step (by repeat (first | (with_reducible first | exact HB.out | apply below_alloc | apply pw_below_drewN | apply below_drew1) | exact HB.out)) hb); clear HO146; clear HB; have HO146 := n0_; have HB := n1_; clear n0_ n1_; (try clear hb); (try clear hb2); (try clear hk); (try clear hi)))
          all_goals (try (exfalso; omega))
          all_goals go_ret
          all_goals exact ⟨by first | rfl | (simp [errW_none, errW_some] <;> rfl) | (simp [*, errW_none, errW_some] <;> rfl), by repeat (first | (with_reducible first | exact HB.out | apply below_alloc | apply pw_below_drewN | apply below_drew1) | exact HB.out)⟩
        · rw [if_neg c13] at H
          have c13b0 : (t147.toList == ([97, 47, 98] : List UInt8)) = false := beq_eq_false_iff_ne.mpr c13
          have c13b1 : (t147.toList != ([97, 47, 98] : List UInt8)) = true := bne_iff_ne.mpr c13
          obtain rfl := Option.some.inj H
          go_enter Tryd.func7, Tryd.ntmps7
          go_wp2_with (first | ((with_reducible refine gate_callee (f := 8) rfl ?_); refine goesL_ (some 8) rfl rfl Tryd.func8 (by kernel_rfl) rfl #[.string (⟨#[84, 101, 120, 116, 47, 72, 84, 77, 76, 59, 32, 99, 104, 97, 114, 115, 101, 116, 61, 120]⟩ : ByteArray)] rfl (by (try simp only [List.map_toArray, List.map_cons, List.map_nil]); first | done | rfl | (simp only [List.length_drop, List.length_take]; rfl)) ?_; (with_reducible refine (mime_Essence.calls (⟨#[84, 101, 120, 116, 47, 72, 84, 77, 76, 59, 32, 99, 104, 97, 114, 115, 101, 116, 61, 120]⟩ : ByteArray) t140 true _ ?side1 A1.out).mono ?_); (case side1 => exact Ext.tabs_at HT.out (by repeat (first | (with_reducible first | exact HB.out | apply below_alloc | apply pw_below_drewN | apply below_drew1) | exact HB.out))); rintro e w20 ⟨rfl, hb⟩; refine ⟨_, rfl, ?_⟩; have n0_ := Aside0.mk (below_step (by repeat (first | (with_reducible first | exact HB.out | apply below_alloc | apply pw_below_drewN | apply below_drew1) | exact HB.out)) hb); clear HB; have HB := n0_; clear n0_; (try clear hb); (try clear hb2); (try clear hk); (try clear hi)) | ((with_reducible refine gate_callee (f := 8) rfl ?_); refine goesL_ (some 12) rfl rfl Tryd.func8 (by kernel_rfl) rfl #[.string (⟨#[116, 101, 120, 116]⟩ : ByteArray)] rfl (by (try simp only [List.map_toArray, List.map_cons, List.map_nil]); first | done | rfl | (simp only [List.length_drop, List.length_take]; rfl)) ?_; (with_reducible refine (mime_Essence.calls (⟨#[116, 101, 120, 116]⟩ : ByteArray) t142 false _ ?side1 A2.out).mono ?_); (case side1 => exact Ext.tabs_at HT.out (by repeat (first | (with_reducible first | exact HB.out | apply below_alloc | apply pw_below_drewN | apply below_drew1) | exact HB.out))); rintro e w21 ⟨rfl, hb⟩; refine ⟨_, rfl, ?_⟩; have n0_ := Aside0.mk (below_step (by repeat (first | (with_reducible first | exact HB.out | apply below_alloc | apply pw_below_drewN | apply below_drew1) | exact HB.out)) hb); clear HB; have HB := n0_; clear n0_; (try clear hb); (try clear hb2); (try clear hk); (try clear hi)) | ((with_reducible refine gate_dst (N := 17) rfl ?_); refine Kd.R_lit k35 _ 35 ?hg (N := 17) ?hd (xs := ([(⟨(⟨#[67, 111, 110, 116, 101, 110, 116, 45, 84, 121, 112, 101]⟩ : ByteArray), (⟨#[97, 47, 98, 44, 32, 42, 47, 42]⟩ : ByteArray)⟩ : S35)] : List (S35))) (inner := [.string (⟨#[67, 111, 110, 116, 101, 110, 116, 45, 84, 121, 112, 101]⟩ : ByteArray), .string (⟨#[97, 47, 98, 44, 32, 42, 47, 42]⟩ : ByteArray)]) (ok := fun _ => True) (okp := fun _ => True) ?hr ?hp (fun _ hk => hk) trivial (Below.refl _ _) (Nat.le_refl _) (by simp) ?_; (case hd => rfl); (case hg => rfl); (case hr => first | (go_simp; done) | (go_simp; rfl)); (case hp => exact (Reps.c2 (show Kd.M k35 _ _ _ (⟨(⟨#[67, 111, 110, 116, 101, 110, 116, 45, 84, 121, 112, 101]⟩ : ByteArray), (⟨#[97, 47, 98, 44, 32, 42, 47, 42]⟩ : ByteArray)⟩ : S35) [.string (⟨#[67, 111, 110, 116, 101, 110, 116, 45, 84, 121, 112, 101]⟩ : ByteArray), .string (⟨#[97, 47, 98, 44, 32, 42, 47, 42]⟩ : ByteArray)] from (k35_mkM _ _ _ (⟨(⟨#[67, 111, 110, 116, 101, 110, 116, 45, 84, 121, 112, 101]⟩ : ByteArray), (⟨#[97, 47, 98, 44, 32, 42, 47, 42]⟩ : ByteArray)⟩ : S35) )) (Reps.none _ _))); intro v145 w22 ho23 hb hg_ hnew_; clear hg_ hnew_; (first | rw [← Ny144.out] at ho23 | (simp only [Int.reduceToNat] at ho23; rw [← Ny144.out] at ho23)); have n0_ := Aside0.mk (Kd.R_lower ho23 (below_size (by repeat (first | (with_reducible first | exact HB.out | apply below_alloc | apply pw_below_drewN | apply below_drew1) | exact HB.out)))); have n1_ := Aside0.mk (below_step (by repeat (first | (with_reducible first | exact HB.out | apply below_alloc | apply pw_below_drewN | apply below_drew1) | exact HB.out)) hb); clear HB; have HO146 := n0_; have HB := n1_; clear n0_ n1_; clear hb ho23; obtain ⟨Ao24, co24, eo24⟩ := Kd.R_slice HO146.out; subst eo24) | ((with_reducible refine gate_callee (f := 10) rfl ?_); refine goesL_ (some 18) rfl rfl Tryd.func10 (by kernel_rfl) rfl #[.slice Ao24 y144.length co24] rfl (by (try simp only [List.map_toArray, List.map_cons, List.map_nil]); first | done | rfl | (simp only [List.length_drop, List.length_take]; rfl)) ?_; (with_reducible refine (mime_Of.calls k _ _ y144 t147 t148 _ ?side3 ?side1 ?side2 A3.out).mono ?_); (case side1 => repeat (first | exact (Kd.R_reads' HO146.out).2.2 | (with_reducible refine Kd.C_alloc ?_ _) | (with_reducible refine Kd.C_drewN ?_ _) | (with_reducible refine Kd.C_drew ?_))); (case side2 => exact (Kd.R_reads' HO146.out).2.1); (case side3 => exact Ext.tabs_at HT.out (by repeat (first | (with_reducible first | exact HB.out | apply below_alloc | apply pw_below_drewN | apply below_drew1) | exact HB.out))); rintro e w25 ⟨rfl, hb⟩; refine ⟨_, rfl, ?_⟩; have n0_ := Aside0.mk (Kd.R_below (by (with_reducible repeat (first | apply Kd.R_alloc | apply Kd.R_drewN | apply Kd.R_drew)); exact HO146.out) hb); have n1_ := Aside0.mk (below_step (by repeat (first | (with_reducible first | exact HB.out | apply below_alloc | apply pw_below_drewN | apply below_drew1) | exact HB.out)) hb); clear HO146; clear HB; have HO146 := n0_; have HB := n1_; clear n0_ n1_; (try clear hb); (try clear hb2); (try clear hk); (try clear hi)))
          all_goals (try (exfalso; omega))
          all_goals go_ret
          all_goals exact ⟨by first | rfl | (simp [errW_none, errW_some] <;> rfl) | (simp [*, errW_none, errW_some] <;> rfl), by repeat (first | (with_reducible first | exact HB.out | apply below_alloc | apply pw_below_drewN | apply below_drew1) | exact HB.out)⟩
    · replace c5 := Bool.eq_false_iff.mpr c5
      subst c5
      have H1 : (some false) = some r := by rw [if_neg (show ¬ (false = true) by decide)] at H; exact H
      clear H
      have H := H1
      clear H1
      obtain rfl := Option.some.inj H
      go_enter Tryd.func7, Tryd.ntmps7
      go_wp2_with (first | ((with_reducible refine gate_callee (f := 8) rfl ?_); refine goesL_ (some 8) rfl rfl Tryd.func8 (by kernel_rfl) rfl #[.string (⟨#[84, 101, 120, 116, 47, 72, 84, 77, 76, 59, 32, 99, 104, 97, 114, 115, 101, 116, 61, 120]⟩ : ByteArray)] rfl (by (try simp only [List.map_toArray, List.map_cons, List.map_nil]); first | done | rfl | (simp only [List.length_drop, List.length_take]; rfl)) ?_; (with_reducible refine (mime_Essence.calls (⟨#[84, 101, 120, 116, 47, 72, 84, 77, 76, 59, 32, 99, 104, 97, 114, 115, 101, 116, 61, 120]⟩ : ByteArray) t140 false _ ?side1 A1.out).mono ?_); (case side1 => exact Ext.tabs_at HT.out (by repeat (first | (with_reducible first | exact HB.out | apply below_alloc | apply pw_below_drewN | apply below_drew1) | exact HB.out))); rintro e w26 ⟨rfl, hb⟩; refine ⟨_, rfl, ?_⟩; have n0_ := Aside0.mk (below_step (by repeat (first | (with_reducible first | exact HB.out | apply below_alloc | apply pw_below_drewN | apply below_drew1) | exact HB.out)) hb); clear HB; have HB := n0_; clear n0_; (try clear hb); (try clear hb2); (try clear hk); (try clear hi)) | ((with_reducible refine gate_callee (f := 8) rfl ?_); refine goesL_ (some 12) rfl rfl Tryd.func8 (by kernel_rfl) rfl #[.string (⟨#[116, 101, 120, 116]⟩ : ByteArray)] rfl (by (try simp only [List.map_toArray, List.map_cons, List.map_nil]); first | done | rfl | (simp only [List.length_drop, List.length_take]; rfl)) ?_; (with_reducible refine (mime_Essence.calls (⟨#[116, 101, 120, 116]⟩ : ByteArray) t142 t143 _ ?side1 A2.out).mono ?_); (case side1 => exact Ext.tabs_at HT.out (by repeat (first | (with_reducible first | exact HB.out | apply below_alloc | apply pw_below_drewN | apply below_drew1) | exact HB.out))); rintro e w27 ⟨rfl, hb⟩; refine ⟨_, rfl, ?_⟩; have n0_ := Aside0.mk (below_step (by repeat (first | (with_reducible first | exact HB.out | apply below_alloc | apply pw_below_drewN | apply below_drew1) | exact HB.out)) hb); clear HB; have HB := n0_; clear n0_; (try clear hb); (try clear hb2); (try clear hk); (try clear hi)) | ((with_reducible refine gate_dst (N := 17) rfl ?_); refine Kd.R_lit k35 _ 35 ?hg (N := 17) ?hd (xs := ([(⟨(⟨#[67, 111, 110, 116, 101, 110, 116, 45, 84, 121, 112, 101]⟩ : ByteArray), (⟨#[97, 47, 98, 44, 32, 42, 47, 42]⟩ : ByteArray)⟩ : S35)] : List (S35))) (inner := [.string (⟨#[67, 111, 110, 116, 101, 110, 116, 45, 84, 121, 112, 101]⟩ : ByteArray), .string (⟨#[97, 47, 98, 44, 32, 42, 47, 42]⟩ : ByteArray)]) (ok := fun _ => True) (okp := fun _ => True) ?hr ?hp (fun _ hk => hk) trivial (Below.refl _ _) (Nat.le_refl _) (by simp) ?_; (case hd => rfl); (case hg => rfl); (case hr => first | (go_simp; done) | (go_simp; rfl)); (case hp => exact (Reps.c2 (show Kd.M k35 _ _ _ (⟨(⟨#[67, 111, 110, 116, 101, 110, 116, 45, 84, 121, 112, 101]⟩ : ByteArray), (⟨#[97, 47, 98, 44, 32, 42, 47, 42]⟩ : ByteArray)⟩ : S35) [.string (⟨#[67, 111, 110, 116, 101, 110, 116, 45, 84, 121, 112, 101]⟩ : ByteArray), .string (⟨#[97, 47, 98, 44, 32, 42, 47, 42]⟩ : ByteArray)] from (k35_mkM _ _ _ (⟨(⟨#[67, 111, 110, 116, 101, 110, 116, 45, 84, 121, 112, 101]⟩ : ByteArray), (⟨#[97, 47, 98, 44, 32, 42, 47, 42]⟩ : ByteArray)⟩ : S35) )) (Reps.none _ _))); intro v145 w28 ho29 hb hg_ hnew_; clear hg_ hnew_; (first | rw [← Ny144.out] at ho29 | (simp only [Int.reduceToNat] at ho29; rw [← Ny144.out] at ho29)); have n0_ := Aside0.mk (Kd.R_lower ho29 (below_size (by repeat (first | (with_reducible first | exact HB.out | apply below_alloc | apply pw_below_drewN | apply below_drew1) | exact HB.out)))); have n1_ := Aside0.mk (below_step (by repeat (first | (with_reducible first | exact HB.out | apply below_alloc | apply pw_below_drewN | apply below_drew1) | exact HB.out)) hb); clear HB; have HO146 := n0_; have HB := n1_; clear n0_ n1_; clear hb ho29; obtain ⟨Ao30, co30, eo30⟩ := Kd.R_slice HO146.out; subst eo30) | ((with_reducible refine gate_callee (f := 10) rfl ?_); refine goesL_ (some 18) rfl rfl Tryd.func10 (by kernel_rfl) rfl #[.slice Ao30 y144.length co30] rfl (by (try simp only [List.map_toArray, List.map_cons, List.map_nil]); first | done | rfl | (simp only [List.length_drop, List.length_take]; rfl)) ?_; (with_reducible refine (mime_Of.calls k _ _ y144 t147 t148 _ ?side3 ?side1 ?side2 A3.out).mono ?_); (case side1 => repeat (first | exact (Kd.R_reads' HO146.out).2.2 | (with_reducible refine Kd.C_alloc ?_ _) | (with_reducible refine Kd.C_drewN ?_ _) | (with_reducible refine Kd.C_drew ?_))); (case side2 => exact (Kd.R_reads' HO146.out).2.1); (case side3 => exact Ext.tabs_at HT.out (by repeat (first | (with_reducible first | exact HB.out | apply below_alloc | apply pw_below_drewN | apply below_drew1) | exact HB.out))); rintro e w31 ⟨rfl, hb⟩; refine ⟨_, rfl, ?_⟩; have n0_ := Aside0.mk (Kd.R_below (by (with_reducible repeat (first | apply Kd.R_alloc | apply Kd.R_drewN | apply Kd.R_drew)); exact HO146.out) hb); have n1_ := Aside0.mk (below_step (by repeat (first | (with_reducible first | exact HB.out | apply below_alloc | apply pw_below_drewN | apply below_drew1) | exact HB.out)) hb); clear HO146; clear HB; have HO146 := n0_; have HB := n1_; clear n0_ n1_; (try clear hb); (try clear hb2); (try clear hk); (try clear hi)))
      all_goals (try (exfalso; omega))
      all_goals go_ret
      all_goals exact ⟨by first | rfl | (simp [errW_none, errW_some] <;> rfl) | (simp [*, errW_none, errW_some] <;> rfl), by repeat (first | (with_reducible first | exact HB.out | apply below_alloc | apply pw_below_drewN | apply below_drew1) | exact HB.out)⟩
  · rw [if_neg c4] at H
    have c4b0 : (t140.toList == ([116, 101, 120, 116, 47, 104, 116, 109, 108] : List UInt8)) = false := beq_eq_false_iff_ne.mpr c4
    have c4b1 : (t140.toList != ([116, 101, 120, 116, 47, 104, 116, 109, 108] : List UInt8)) = true := bne_iff_ne.mpr c4
    obtain rfl := Option.some.inj H
    go_enter Tryd.func7, Tryd.ntmps7
    go_wp2_with (first | ((with_reducible refine gate_callee (f := 8) rfl ?_); refine goesL_ (some 8) rfl rfl Tryd.func8 (by kernel_rfl) rfl #[.string (⟨#[84, 101, 120, 116, 47, 72, 84, 77, 76, 59, 32, 99, 104, 97, 114, 115, 101, 116, 61, 120]⟩ : ByteArray)] rfl (by (try simp only [List.map_toArray, List.map_cons, List.map_nil]); first | done | rfl | (simp only [List.length_drop, List.length_take]; rfl)) ?_; (with_reducible refine (mime_Essence.calls (⟨#[84, 101, 120, 116, 47, 72, 84, 77, 76, 59, 32, 99, 104, 97, 114, 115, 101, 116, 61, 120]⟩ : ByteArray) t140 t141 _ ?side1 A1.out).mono ?_); (case side1 => exact Ext.tabs_at HT.out (by repeat (first | (with_reducible first | exact HB.out | apply below_alloc | apply pw_below_drewN | apply below_drew1) | exact HB.out))); rintro e w32 ⟨rfl, hb⟩; refine ⟨_, rfl, ?_⟩; have n0_ := Aside0.mk (below_step (by repeat (first | (with_reducible first | exact HB.out | apply below_alloc | apply pw_below_drewN | apply below_drew1) | exact HB.out)) hb); clear HB; have HB := n0_; clear n0_; (try clear hb); (try clear hb2); (try clear hk); (try clear hi)) | ((with_reducible refine gate_callee (f := 8) rfl ?_); refine goesL_ (some 12) rfl rfl Tryd.func8 (by kernel_rfl) rfl #[.string (⟨#[116, 101, 120, 116]⟩ : ByteArray)] rfl (by (try simp only [List.map_toArray, List.map_cons, List.map_nil]); first | done | rfl | (simp only [List.length_drop, List.length_take]; rfl)) ?_; (with_reducible refine (mime_Essence.calls (⟨#[116, 101, 120, 116]⟩ : ByteArray) t142 t143 _ ?side1 A2.out).mono ?_); (case side1 => exact Ext.tabs_at HT.out (by repeat (first | (with_reducible first | exact HB.out | apply below_alloc | apply pw_below_drewN | apply below_drew1) | exact HB.out))); rintro e w33 ⟨rfl, hb⟩; refine ⟨_, rfl, ?_⟩; have n0_ := Aside0.mk (below_step (by repeat (first | (with_reducible first | exact HB.out | apply below_alloc | apply pw_below_drewN | apply below_drew1) | exact HB.out)) hb); clear HB; have HB := n0_; clear n0_; (try clear hb); (try clear hb2); (try clear hk); (try clear hi)) | ((with_reducible refine gate_dst (N := 17) rfl ?_); refine Kd.R_lit k35 _ 35 ?hg (N := 17) ?hd (xs := ([(⟨(⟨#[67, 111, 110, 116, 101, 110, 116, 45, 84, 121, 112, 101]⟩ : ByteArray), (⟨#[97, 47, 98, 44, 32, 42, 47, 42]⟩ : ByteArray)⟩ : S35)] : List (S35))) (inner := [.string (⟨#[67, 111, 110, 116, 101, 110, 116, 45, 84, 121, 112, 101]⟩ : ByteArray), .string (⟨#[97, 47, 98, 44, 32, 42, 47, 42]⟩ : ByteArray)]) (ok := fun _ => True) (okp := fun _ => True) ?hr ?hp (fun _ hk => hk) trivial (Below.refl _ _) (Nat.le_refl _) (by simp) ?_; (case hd => rfl); (case hg => rfl); (case hr => first | (go_simp; done) | (go_simp; rfl)); (case hp => exact (Reps.c2 (show Kd.M k35 _ _ _ (⟨(⟨#[67, 111, 110, 116, 101, 110, 116, 45, 84, 121, 112, 101]⟩ : ByteArray), (⟨#[97, 47, 98, 44, 32, 42, 47, 42]⟩ : ByteArray)⟩ : S35) [.string (⟨#[67, 111, 110, 116, 101, 110, 116, 45, 84, 121, 112, 101]⟩ : ByteArray), .string (⟨#[97, 47, 98, 44, 32, 42, 47, 42]⟩ : ByteArray)] from (k35_mkM _ _ _ (⟨(⟨#[67, 111, 110, 116, 101, 110, 116, 45, 84, 121, 112, 101]⟩ : ByteArray), (⟨#[97, 47, 98, 44, 32, 42, 47, 42]⟩ : ByteArray)⟩ : S35) )) (Reps.none _ _))); intro v145 w34 ho35 hb hg_ hnew_; clear hg_ hnew_; (first | rw [← Ny144.out] at ho35 | (simp only [Int.reduceToNat] at ho35; rw [← Ny144.out] at ho35)); have n0_ := Aside0.mk (Kd.R_lower ho35 (below_size (by repeat (first | (with_reducible first | exact HB.out | apply below_alloc | apply pw_below_drewN | apply below_drew1) | exact HB.out)))); have n1_ := Aside0.mk (below_step (by repeat (first | (with_reducible first | exact HB.out | apply below_alloc | apply pw_below_drewN | apply below_drew1) | exact HB.out)) hb); clear HB; have HO146 := n0_; have HB := n1_; clear n0_ n1_; clear hb ho35; obtain ⟨Ao36, co36, eo36⟩ := Kd.R_slice HO146.out; subst eo36) | ((with_reducible refine gate_callee (f := 10) rfl ?_); refine goesL_ (some 18) rfl rfl Tryd.func10 (by kernel_rfl) rfl #[.slice Ao36 y144.length co36] rfl (by (try simp only [List.map_toArray, List.map_cons, List.map_nil]); first | done | rfl | (simp only [List.length_drop, List.length_take]; rfl)) ?_; (with_reducible refine (mime_Of.calls k _ _ y144 t147 t148 _ ?side3 ?side1 ?side2 A3.out).mono ?_); (case side1 => repeat (first | exact (Kd.R_reads' HO146.out).2.2 | (with_reducible refine Kd.C_alloc ?_ _) | (with_reducible refine Kd.C_drewN ?_ _) | (with_reducible refine Kd.C_drew ?_))); (case side2 => exact (Kd.R_reads' HO146.out).2.1); (case side3 => exact Ext.tabs_at HT.out (by repeat (first | (with_reducible first | exact HB.out | apply below_alloc | apply pw_below_drewN | apply below_drew1) | exact HB.out))); rintro e w37 ⟨rfl, hb⟩; refine ⟨_, rfl, ?_⟩; have n0_ := Aside0.mk (Kd.R_below (by (with_reducible repeat (first | apply Kd.R_alloc | apply Kd.R_drewN | apply Kd.R_drew)); exact HO146.out) hb); have n1_ := Aside0.mk (below_step (by repeat (first | (with_reducible first | exact HB.out | apply below_alloc | apply pw_below_drewN | apply below_drew1) | exact HB.out)) hb); clear HO146; clear HB; have HO146 := n0_; have HB := n1_; clear n0_ n1_; (try clear hb); (try clear hb2); (try clear hk); (try clear hi)))
    all_goals (try (exfalso; omega))
    all_goals go_ret
    all_goals exact ⟨by first | rfl | (simp [errW_none, errW_some] <;> rfl) | (simp [*, errW_none, errW_some] <;> rfl), by repeat (first | (with_reducible first | exact HB.out | apply below_alloc | apply pw_below_drewN | apply below_drew1) | exact HB.out)⟩

/-! ### transeptlaw11_MimeNames: function 6 -/
def transeptlaw11_MimeNames.j0 : Nat → ByteArray → ByteArray → ByteArray → Bool → Bool → Option (Bool)
  | 0, _, _, _, _, _ => none
  | k + 1, x0, x1, x2, x7, x30 => if x30 = true then (some x7) else (if x0.size + 1 ≤ 9223372036854775807 then (if (x0 ++ (⟨#[47]⟩ : ByteArray)).size + x1.size ≤ 9223372036854775807 then (if ((x0 ++ (⟨#[47]⟩ : ByteArray)) ++ x1).size + 1 ≤ 9223372036854775807 then (if (((x0 ++ (⟨#[47]⟩ : ByteArray)) ++ x1) ++ (⟨#[59]⟩ : ByteArray)).size + x2.size ≤ 9223372036854775807 then ((mime_Essence.f ((((x0 ++ (⟨#[47]⟩ : ByteArray)) ++ x1) ++ (⟨#[59]⟩ : ByteArray)) ++ x2)).bind fun bt152 => (if x0.size + 2 ≤ 9223372036854775807 then (if (x0 ++ (⟨#[32, 47]⟩ : ByteArray)).size + x1.size ≤ 9223372036854775807 then ((mime_Essence.f ((x0 ++ (⟨#[32, 47]⟩ : ByteArray)) ++ x1)).bind fun bt154 => (if (x0 ++ (⟨#[47, 32]⟩ : ByteArray)).size + x1.size ≤ 9223372036854775807 then ((mime_Essence.f ((x0 ++ (⟨#[47, 32]⟩ : ByteArray)) ++ x1)).bind fun bt156 => (if (((x0 ++ (⟨#[47]⟩ : ByteArray)) ++ x1) ++ (⟨#[47]⟩ : ByteArray)).size + x1.size ≤ 9223372036854775807 then ((mime_Essence.f ((((x0 ++ (⟨#[47]⟩ : ByteArray)) ++ x1) ++ (⟨#[47]⟩ : ByteArray)) ++ x1)).bind fun bt158 => (if x0.size + x1.size ≤ 9223372036854775807 then ((mime_Essence.f (x0 ++ x1)).bind fun bt160 => (if x7 = true then (if bt152.2 = true then ((Ext.token_Lower.f x0).bind fun t162 => (if t162.size + 1 ≤ 9223372036854775807 then ((Ext.token_Lower.f x1).bind fun t163 => (if (t162 ++ (⟨#[47]⟩ : ByteArray)).size + t163.size ≤ 9223372036854775807 then (if bt152.1.toList = ((t162 ++ (⟨#[47]⟩ : ByteArray)) ++ t163).toList then (if bt154.2 = true then (some false) else (if bt156.2 = true then (some false) else (if bt158.2 = true then (some false) else (some (!bt160.2))))) else (some false)) else (none))) else (none))) else (some false)) else (some false))) else (none))) else (none))) else (none))) else (none)) else (none))) else (none)) else (none)) else (none)) else (none))
def transeptlaw11_MimeNames.f (k : Nat) (a0 : ByteArray) (a1 : ByteArray) (a2 : ByteArray) : Option (Bool) := (transeptlaw11_shown.f k).bind fun t149 => ((Ext.token_Name.f a0).bind fun t150 => ((Ext.token_Name.f a1).bind fun t151 => (if t150 = true then (transeptlaw11_MimeNames.j0 k a0 a1 a2 t149 (!t151)) else (transeptlaw11_MimeNames.j0 k a0 a1 a2 t149 true))))
/-! ### transeptlaw11_MimeOwn: function 4 -/
def transeptlaw11_MimeOwn.f (k : Nat) (a0 : ByteArray) (a1 : ByteArray) : Option (Bool) := (transeptlaw11_shown.f k).bind fun t164 => ((mime_Essence.f a0).bind fun bt165 => (if bt165.2 = true then ((mime_Essence.f bt165.1).bind fun bt167 => (if 2 + bt165.1.size ≤ 9223372036854775807 then (if ((⟨#[32, 9]⟩ : ByteArray) ++ bt165.1).size + 2 ≤ 9223372036854775807 then (if (((⟨#[32, 9]⟩ : ByteArray) ++ bt165.1) ++ (⟨#[32, 59]⟩ : ByteArray)).size + a1.size ≤ 9223372036854775807 then ((mime_Essence.f ((((⟨#[32, 9]⟩ : ByteArray) ++ bt165.1) ++ (⟨#[32, 59]⟩ : ByteArray)) ++ a1)).bind fun bt169 => (if t164 = true then (if bt167.2 = true then (if bt169.2 = true then (if bt167.1.toList = bt165.1.toList then (if bt169.1.toList = bt165.1.toList then ((Ext.token_Lower.f bt165.1).bind fun t171 => (some (t171.toList == bt165.1.toList))) else (some false)) else (some false)) else (some false)) else (some false)) else (some false))) else (none)) else (none)) else (none))) else (if t164 = true then (some (bt165.1.toList == ([] : List UInt8))) else (some false))))
end Go.Proofs.YtkljbmomafeibaaDoor.Fun
