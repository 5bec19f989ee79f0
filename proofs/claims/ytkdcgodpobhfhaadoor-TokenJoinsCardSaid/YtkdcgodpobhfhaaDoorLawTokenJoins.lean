/-
  THE ROW AND THE CARD of the law TokenJoins: for every input the law returns true, and the input reads as it did. Conditions: those of the given statement (the two tables of unicode/utf8 as the program's text lays them).
-/
import Derived.Test.YtkdcgodpobhfhaaDoorPureJoins
import Derived.Test.YtkdcgodpobhfhaaDoorRow
namespace Go.Proofs.YtkdcgodpobhfhaaDoor.tokenJoins
open Go.ChangeShapes Go.WideShapes Go.ChangeAt Go.RowKit
open Go.ChangeMaps (open_string shut_string)
open Go.Proofs.YtkdcgodpobhfhaaDoorW.PrintWords
set_option linter.unusedVariables false
set_option linter.unusedSimpArgs false
theorem laid_met (os : Os) : laidMet Tryd.prog Rows.tokenJoinsRow.laid ((XRow.laidWorld os).forCall (fun _ _ => 0) ⟨#[], #[Value.slice none 0 0, .slice none 0 0], []⟩).memory :=
  laidMet_of_run' 8 (by kernel_rfl) (by kernel_rfl)
theorem reads (os : Os) {H : Type} (enc : TypeId × Value → H) : ∃ places, DataW.whole enc Tryd.prog ((XRow.laidWorld os).forCall (fun _ _ => 0) ⟨#[], #[Value.slice none 0 0, .slice none 0 0], []⟩).memory Tryd.f4.params.toList Rows.tokenJoinsSpec.vars false (#[Value.slice none 0 0, .slice none 0 0] : Array Value).toList 8 = some ([.nil, .nil], [], places) :=
  ⟨[], by kernel_rfl⟩
set_option maxRecDepth 100000 in
theorem lifted (os : Os) (started : os.Started) (H : Type) (enc : TypeId × Value → H) (F : Stop.Interp) :
    ReturnsInHanded {} Tryd.checked os 4 .any ((OpenSpec.ofChange Rows.tokenJoinsSpec).preRow enc Tryd.prog Tryd.f4 Rows.tokenJoinsRow.domain false Rows.tokenJoinsRow.laid) (((OpenSpec.ofChange Rows.tokenJoinsSpec).at F).post enc Tryd.prog Tryd.f4 false true false false) := by
  obtain ⟨places, hx⟩ := reads os enc
  refine returnsInHanded_of_row (C := Tryd.checked) (s := OpenSpec.ofChange Rows.tokenJoinsSpec) XRow.own started (by kernel_rfl) Tryd.func4
    (witness_row_at (enc := enc) (C := Tryd.checked) false (XRow.laidWorld os) #[Value.slice none 0 0, .slice none 0 0] rfl (by kernel_rfl) (by kernel_rfl) (by kernel_rfl)
      (OpenSpec.preRow_of_cond 8 hx (by kernel_rfl) (fun k hk => by cases hk) (by kernel_rfl) (laid_met os))) ?_
  intro W base args ds gs before hval0 hW hcnd hk hsz0 hL _ _
  have hT : Ext.Tabs W := XRow.tabs hL
  have hsz : (DataW.weightsEach Tryd.prog (Tryd.f4.params.toList ++ Rows.tokenJoinsSpec.plain.varTypes Tryd.prog) (ds ++ gs)).all (· ≤ reachBytes) = true := hsz0
  have hval : ∀ (j : Nat) t v, Tryd.f4.params[j]? = some t → args[j]? = some v → Value.okWide Tryd.prog W .any base t v := hval0
  have hW' := hW
  obtain ⟨p, q, hA0, hV, rfl, hfz, hnd⟩ := hW
  have hA : DataW.TrodAll enc Tryd.prog W 0 (fun _ => true) true Tryd.f4.params.toList args.toList ds p := hA0
  rw [Tryd.params4] at hA hval hsz
  obtain ⟨v0, vs0, d0, ds0, p0, q0, hargs, rfl, rfl, h0, r0⟩ := trodAll_cons hA
  obtain ⟨v1, vs1, d1, ds1, p1, q1, rfl, rfl, rfl, h1, r1⟩ := trodAll_cons r0
  obtain ⟨rfl, rfl, rfl⟩ := trodAll_nil r1
  obtain rfl : args = #[v0, v1] := by cases args; simp_all
  obtain ⟨rfl, rfl⟩ := trodVars_none hV
  have k0 := h0
  have lt0 := XRow.trod_lt h0
  obtain ⟨A0, c0, l0, rfl, hr0, hc0, hd0⟩ := XRow.open_strsC Tryd.underlying26 Tryd.underlying9 (by kernel_rfl) (okWide_slice Tryd.underlying26 (hval 0 26 v0 rfl rfl)) h0
  have w0 := XRow.strs_reach hsz (j := 0) (t := 26) rfl rfl Tryd.underlying26 hd0
  have k1 := h1
  have lt1 := XRow.trod_lt h1
  obtain ⟨A1, c1, l1, rfl, hr1, hc1⟩ := XRow.open_boolsC Tryd.underlying27 Tryd.underlying4 (by kernel_rfl) (okWide_slice Tryd.underlying27 (hval 1 27 v1 rfl rfl)) h1
  clear hA0 hval0 hsz0 hsz
  obtain ⟨k, hf⟩ := Pure.TokenJoins l0 l1 w0
  have walk := Fun.transeptlaw09_TokenJoins.calls k A0 c0 l0 A1 c1 l1 true W hT hr0 hc0 hr1 hc1 hf
  refine walk.mono fun e W' ⟨he, bel0⟩ => ?_
  have bel : Below W.heap.size W W' := bel0
  subst he
  exact ⟨_, rfl, _, _, _, [], _, [], hW', trodAll_mk1 (shut_bool Tryd.underlying4 _), (trodAll_cons_mk (Below.trod XRow.laidOut (by kernel_rfl) (of_decide_eq_true (by kernel_rfl)) k0 bel lt0) (trodAll_cons_mk (Below.trod XRow.laidOut (by kernel_rfl) (of_decide_eq_true (by kernel_rfl)) k1 bel lt1) trodAll_mk0)), rfl, bel.frame _, fun h => by cases h⟩
theorem said : Rows.TokenJoinsSaid :=
  OpenClaim.holds_of_cond 4 Tryd.f4 rfl rfl rfl rfl rfl rfl rfl ⟨rfl, rfl, rfl, rfl, rfl⟩ rfl rfl rfl rfl rfl (by kernel_rfl) Tryd.func4 (by kernel_rfl)
    (of_decide_eq_true (by kernel_rfl)) (by unfold Func.isWrapper; first | (rw [if_pos (by decide +kernel)]; kernel_rfl) | (rw [if_neg (by decide +kernel)]; exact ⟨rfl, rfl⟩))
    (fun os started H enc _ F => by rw [OpenClaim.pre_eq_preRow]; exact lifted os started H enc F)
theorem plain (f : FuncId) (fn : Func) (hf : Tryd.pinned.checked.prog.funcNamed "transept/transeptlaw09.TokenJoins" = some f) (hfn : Tryd.pinned.checked.prog.funcs[f]? = some fn) :
    false = Tryd.pinned.checked.prog.looks [] ∧ ∀ (j : Nat) t, fn.params[j]? = some t → Tryd.pinned.checked.prog.wantsStandIn t = false := by
  obtain rfl : f = 4 := Option.some.inj ((show Tryd.prog.funcNamed "transept/transeptlaw09.TokenJoins" = some 4 by kernel_rfl).symm.trans hf) |>.symm
  obtain rfl : fn = Tryd.f4 := (Option.some.inj (Tryd.func4.symm.trans hfn)).symm
  refine ⟨by kernel_rfl, fun j t ht => ?_⟩
  rw [Tryd.params4] at ht
  have hm := Array.mem_of_getElem? ht
  have all : ∀ t ∈ (#[26, 27] : Array TypeId), Tryd.prog.wantsStandIn t = false := by
    intro t ht
    simp only [List.mem_toArray, List.mem_cons, List.not_mem_nil, or_false] at ht
    rcases ht with rfl | rfl
    all_goals kernel_rfl
  exact all t hm
/-- THE CARD -/
theorem card : Rows.TokenJoinsCardSaid :=
  Claim7.holds_tied_plain_at .later [] _ _ _ _ said (fun _ h => by cases h) (by kernel_rfl) (fun _ h => by cases h) tokenJoins_row_tie rfl ⟨rfl, rfl⟩ (by kernel_rfl) rfl plain (by kernel_rfl)
#print axioms card
end Go.Proofs.YtkdcgodpobhfhaaDoor.tokenJoins
namespace Go.Proofs.YtkdcgodpobhfhaaDoor
/-- The card, under a short name, for the claim. -/
theorem tokenJoins_holds : Rows.TokenJoinsCardSaid := tokenJoins.card
end Go.Proofs.YtkdcgodpobhfhaaDoor
