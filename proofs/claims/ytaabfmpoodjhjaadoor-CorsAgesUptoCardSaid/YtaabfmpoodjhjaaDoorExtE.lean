/-
  CONTRACTS, proved by hand: slices.IndexFunc with the place that it finds, slices.DeleteFunc over a row of the caller's own, and the function that cors.List hands to it. Conditions: those in each statement; the tables of unicode/utf8 where Tabs stands.
-/
import Derived.Test.YtaabfmpoodjhjaaDoorExtTok
import Derived.Lib.SliceRun
namespace Go.Proofs.YtaabfmpoodjhjaaDoor.Ext
open Go.RowKit Go.Proofs.YtaabfmpoodjhjaaDoorW.PrintWords

set_option maxHeartbeats 1000000 in
theorem indexFunc_at (g : Nat) (lb : Array Value) (ok : ByteArray → Prop) (p : ByteArray → Bool) (eg : ∀ args w, (callFunc g args).run Tryd.prog w = .ok (.enter g args) w) (A : Option Addr) (c : Nat) (zs : List ByteArray) (w : World)
    (hp : Tells g lb ok p w) (hz : ∀ x ∈ zs, ok x) (hr : Kd.C Kd.string w A zs.length zs) :
    Calls Tryd.prog 59 #[.slice A zs.length c, .func (.func g) #[] lb] w fun e w' => (∃ n : Int, e = .returned (.int .i64 n) ∧ ((n = -1 ∧ zs.any p = false) ∨ ∃ (i : Nat) (h : i < zs.length), n = i ∧ (zs.take i).any p = false ∧ p zs[i] = true)) ∧ Below w.heap.size w w' := by
  have HR := Aside0.mk hr
  have HM := Aside0.mk (Kd.C_max hr)
  have HP := Aside0.mk hp
  have HZ := Aside0.mk hz
  clear hr hp hz
  go_enter Tryd.func59, Tryd.ntmps59
  go_wp2
  go_loopg [8] zs.length (fun gk v wx => ∃ i : Nat, i + gk = zs.length ∧ v = .int .i64 i ∧ Aside0 ((zs.take i).any p = false) ∧ Below w.heap.size w wx)
  case atStart => exact ⟨0, by omega, rfl, ⟨rfl⟩, Below.refl _ _⟩
  case round =>
    obtain ⟨i, hi, rfl, HN, HB⟩ := hrel
    have hmx := HM.out
    cases gk with
    | zero =>
      obtain rfl : i = zs.length := by omega
      clear hi
      have hfin : zs.any p = false := by
        have := HN.out
        rwa [List.take_of_length_le (Nat.le_refl _)] at this
      have HF := Aside0.mk hfin
      clear hfin
      go_wp2
      go_ret
      exact ⟨⟨-1, rfl, .inl ⟨rfl, HF.out⟩⟩, HB⟩
    | succ gk =>
      have hlt : i < zs.length := by omega
      have h0 : (0 : Int) ≤ (i : Int) := by omega
      have h1 : (i : Int) < (zs.length : Int) := by omega
      obtain ⟨ad, e, hx⟩ := Kd.at_string (Kd.C_below HR.out HB) (i : Int) h0 h1
      cases e
      have hrd : rdOf ByteArray.empty zs (i : Int) = zs[i] := by
        unfold rdOf
        rw [Int.toNat_natCast, List.getD, List.getElem?_eq_getElem hlt]
        rfl
      rw [hrd, Int.toNat_natCast] at hx
      obtain ⟨x, hxx⟩ : ∃ x, x = zs[i] := ⟨_, rfl⟩
      rw [← hxx] at hx
      have hox : ok x := HZ.out x (by rw [hxx]; exact List.getElem_mem hlt)
      have HX := Aside0.mk hxx
      have HI := Aside0.mk hi
      have HO := Aside0.mk hox
      clear hxx hrd hi hox
      go_wp2_with fail
      refine (HP.out wr x HO.out HB).mono ?_
      rintro e W1 ⟨rfl, hb1⟩
      have HB1 := below_then HB HB.size hb1
      clear hb1
      cases hpx : p x with
      | true =>
        have HPX := Aside0.mk hpx
        clear hpx
        go_wp2
        go_ret
        exact ⟨⟨(i : Int), rfl, .inr ⟨i, hlt, rfl, HN.out, by rw [← HX.out]; exact HPX.out⟩⟩, HB1⟩
      | false =>
        have HPX := Aside0.mk hpx
        clear hpx
        go_wp2
        go_roundg gk
        case measure => omega
        case rel =>
          refine ⟨i + 1, by have := HI.out; omega, by go_num, ⟨?_⟩, HB1⟩
          rw [take_any zs i hlt, HN.out, ← HX.out, HPX.out]
          rfl

/-- a row of the call's own, block B: cap places, the first ones as told -/
def Row (W : World) (B cap : Nat) (xs : List ByteArray) : Prop :=
  ∃ arr : Array Value, W.heap[B]? = some (.cells arr 9 (0, 0)) ∧ arr.size = cap ∧ ∀ (j : Nat) (h : j < xs.length), arr[j]? = some (.string xs[j])
theorem Row.cell {W : World} {B cap : Nat} {xs : List ByteArray} (h : Row W B cap xs) (j : Nat) (hj : j < xs.length) : W.cell? ⟨B, j, none⟩ = some (.string xs[j]) := by
  obtain ⟨arr, h1, h2, h3⟩ := h
  simp [World.cell?, h1, h3 j hj]
theorem Row.free {W : World} {B cap : Nat} {xs : List ByteArray} (h : Row W B cap xs) (j : Nat) : W.frozen? ⟨B, j, none⟩ = false := by
  obtain ⟨arr, h1, h2, h3⟩ := h
  simp [World.frozen?, h1]
theorem Row.below {W W1 : World} {B cap : Nat} {xs : List ByteArray} (h : Row W B cap xs) (hb : Below W.heap.size W W1) : Row W1 B cap xs := by
  obtain ⟨arr, h1, h2, h3⟩ := h
  exact ⟨arr, (hb.block B (by
    rcases Nat.lt_or_ge B W.heap.size with h | h
    · exact h
    · rw [Array.getElem?_eq_none h] at h1; cases h1)).trans h1, h2, h3⟩
theorem Row.set {W : World} {B cap : Nat} {xs : List ByteArray} (h : Row W B cap xs) (i : Nat) (hi : i < xs.length) (x : ByteArray) : Row (W.setCell ⟨B, i, none⟩ (.string x)) B cap (xs.set i x) := by
  obtain ⟨arr, h1, h2, h3⟩ := h
  refine ⟨arr.setIfInBounds i (.string x), ?_, by simpa using h2, fun j hj => ?_⟩
  · simp [World.setCell, Array.getElem?_modify, h1]
  · rw [List.length_set] at hj
    have hia : i < arr.size := by
      have := h3 i hi
      rcases Nat.lt_or_ge i arr.size with h | h
      · exact h
      · rw [Array.getElem?_eq_none h] at this; cases this
    by_cases e : i = j
    · subst e
      simp [hia]
    · rw [Array.getElem?_setIfInBounds, if_neg e, h3 j hj, List.getElem_set_ne e]
theorem Row.prefix_ {W : World} {B cap : Nat} {xs ys : List ByteArray} (h : Row W B cap (xs ++ ys)) : Row W B cap xs := by
  obtain ⟨arr, h1, h2, h3⟩ := h
  refine ⟨arr, h1, h2, fun j hj => ?_⟩
  rw [h3 j (by rw [List.length_append]; omega), List.getElem_append_left hj]
theorem Row.clear {B cap : Nat} : ∀ (vs : List Value) {W : World} {i : Nat} {xs : List ByteArray}, Row W B cap xs → xs.length ≤ i → Row (W.setCells B i vs) B cap xs
  | [], _, _, _, h, _ => h
  | v :: vs, W, i, xs, h, hi => by
    refine Row.clear vs (W := W.setCell ⟨B, i, none⟩ v) (i := i + 1) ?_ (by omega)
    obtain ⟨arr, h1, h2, h3⟩ := h
    refine ⟨arr.setIfInBounds i v, ?_, by simpa using h2, fun j hj => ?_⟩
    · simp [World.setCell, Array.getElem?_modify, h1]
    · rw [Array.getElem?_setIfInBounds, if_neg (by omega), h3 j hj]
theorem below_set {b : Nat} {w W : World} (h : Below b w W) {B : Nat} (hB : b ≤ B) (j : Nat) (v : Value) : Below b w (W.setCell ⟨B, j, none⟩ v) := by
  refine ⟨h.os, h.tape, h.output, by simpa [World.setCell] using h.size, fun k hk => ?_⟩
  rw [← h.block k hk]
  simp only [World.setCell]
  rw [Array.getElem?_modify, if_neg (by omega)]
theorem below_sets {b B : Nat} {w : World} (hB : b ≤ B) : ∀ (vs : List Value) {W : World} {i : Nat}, Below b w W → Below b w (W.setCells B i vs)
  | [], _, _, h => h
  | v :: vs, W, i, h => below_sets hB vs (W := W.setCell ⟨B, i, none⟩ v) (i := i + 1) (below_set h hB i v)
theorem tells_on {g : Nat} {lb : Array Value} {ok : ByteArray → Prop} {p : ByteArray → Bool} {w w1 : World} (h : Tells g lb ok p w) (hb : Below w.heap.size w w1) : Tells g lb ok p w1 :=
  fun W x hx hW => h W x hx (below_then hb hb.size hW)
theorem Row.reads {W : World} {B cap : Nat} {xs : List ByteArray} (h : Row W B cap xs) (hm : xs.length ≤ 9223372036854775807) : Kd.C Kd.string W (some ⟨B, 0, none⟩) xs.length xs :=
  Kd.C_of_reads (d := ByteArray.empty) ⟨rfl, hm, fun _ => ⟨_, rfl, fun j hj => by
    have := h.cell j hj
    rw [show (⟨B, 0, none⟩ : Addr).add j = ⟨B, j, none⟩ from by simp [Addr.add]; omega]
    rw [this, List.getD_eq_getElem?_getD, List.getElem?_eq_getElem hj]
    rfl⟩⟩

theorem take_filter {p : ByteArray → Bool} (zs : List ByteArray) (j : Nat) (h : j < zs.length) : (zs.take (j + 1)).filter p = (zs.take j).filter p ++ (if p zs[j] then [zs[j]] else []) := by
  rw [List.take_succ_eq_append_getElem h, List.filter_append]
  cases hp : p zs[j] <;> simp [hp]
theorem any_filter {p : ByteArray → Bool} {l : List ByteArray} (h : l.any p = false) : l.filter (fun x => !p x) = l := by
  rw [List.filter_eq_self]
  intro x hx
  rw [List.any_eq_false] at h
  simpa using h x hx
/-- the row while it is gone through: what is kept of the first j, whatever up to j, and what was from j on -/
def Going (p : ByteArray → Bool) (zs : List ByteArray) (W : World) (B cap i j : Nat) : Prop :=
  ∃ mid : List ByteArray, i = ((zs.take j).filter fun x => !p x).length ∧ i + mid.length = j ∧ 0 < mid.length ∧ Row W B cap (((zs.take j).filter fun x => !p x) ++ mid ++ zs.drop j)

theorem add_at (B j : Nat) : (⟨B, 0, none⟩ : Addr).add j = ⟨B, j, none⟩ := by
  simp [Addr.add]; omega

set_option maxHeartbeats 2000000 in
theorem deleteFunc_any (g : Nat) (lb : Array Value) (ok : ByteArray → Prop) (p : ByteArray → Bool) (eg : ∀ args w, (callFunc g args).run Tryd.prog w = .ok (.enter g args) w) (w0 : World) (hp : Tells g lb ok p w0)
    (B cap : Nat) (zs : List ByteArray) (w : World) (hz : ∀ x ∈ zs, ok x) (hw : Below w0.heap.size w0 w) (hB : w0.heap.size ≤ B) (hrow : Row w B cap zs) (hlen : zs.length ≤ cap) (hcap : cap ≤ 9223372036854775807) :
    Calls Tryd.prog 35 #[.slice (some ⟨B, 0, none⟩) zs.length cap, .func (.func g) #[] lb] w fun e w' => e = .returned (.slice (some ⟨B, 0, none⟩) (zs.filter fun x => !p x).length cap) ∧ Below w0.heap.size w0 w' ∧ Row w' B cap (zs.filter fun x => !p x) := by
  have HI := Aside0.mk (indexFunc_at g lb ok p eg (some ⟨B, 0, none⟩) cap zs w (tells_on hp hw) hz (hrow.reads (by omega)))
  have HP := Aside0.mk hp
  have HZ := Aside0.mk hz
  have HW := Aside0.mk hw
  have HB := Aside0.mk hB
  have HR := Aside0.mk hrow
  clear hp hz hw hB hrow
  go_enter Tryd.func35, Tryd.ntmps35
  go_wp2_with fail
  refine HI.out.mono ?_
  rintro e W1 ⟨⟨n, rfl, hn⟩, hb1⟩
  clear HI
  have HW1 := Aside0.mk (below_then HW.out HW.out.size hb1)
  have HR1 := Aside0.mk (HR.out.below hb1)
  clear hb1 HW HR
  rcases hn with ⟨rfl, hall⟩ | ⟨k0, hk0, rfl, hbef, hat⟩
  · have HA := Aside0.mk hall
    clear hall
    go_wp2
    go_ret
    rw [any_filter HA.out]
    exact ⟨rfl, HW1.out, HR1.out⟩
  · have HG : Aside0 (Going p zs W1 B cap k0 (k0 + 1)) := ⟨by
      refine ⟨[zs[k0]], ?_, rfl, by simp, ?_⟩
      · rw [take_filter zs k0 hk0, hat, any_filter hbef]
        simp; omega
      · rw [take_filter zs k0 hk0, hat, any_filter hbef]
        have := HR1.out
        simp only [Bool.not_true, Bool.false_eq_true, if_false, List.append_nil]
        rwa [List.append_assoc, List.singleton_append, ← List.drop_eq_getElem_cons hk0, List.take_append_drop]⟩
    clear hbef hat HR1
    go_wp2
    go_loopg [5, 6, 7] zs.length (fun gg s5 s6 _ wr => ∃ (i j : Nat), s5 = .int .i64 i ∧ s6 = .int .i64 j ∧ j ≤ zs.length ∧ zs.length - j ≤ gg ∧ Aside0 (Below w0.heap.size w0 wr) ∧ Aside0 (Going p zs wr B cap i j))
    case atStart => exact ⟨k0, k0 + 1, rfl, by go_num, by omega, by omega, HW1, HG⟩
    case round =>
      clear HW1 HG
      obtain ⟨i, j, rfl, rfl, hjd, hgg, HWr, HGr⟩ := hrel
      obtain ⟨mid, hi, him, hm0, hrow⟩ := HGr.out
      have hkl : ((zs.take j).filter fun x => !p x).length = i := hi.symm
      generalize hkept : ((zs.take j).filter fun x => !p x) = kept at hrow hkl
      obtain ⟨m0, mr, rfl⟩ : ∃ m0 mr, mid = m0 :: mr := by
        cases mid with
        | nil => simp at hm0
        | cons a b => exact ⟨a, b, rfl⟩
      clear hm0 hi
      have HK := Aside0.mk hkept
      clear hkept
      have hmx : zs.length ≤ 9223372036854775807 := by omega
      by_cases hlt : j < zs.length
      · have hltz : (j : Int) < (zs.length : Int) := by omega
        have hox := HZ.out zs[j] (List.getElem_mem hlt)
        have hdrop : zs.drop j = zs[j] :: zs.drop (j + 1) := List.drop_eq_getElem_cons hlt
        generalize hxj : zs[j] = x at hox hdrop
        have HX := Aside0.mk hxj
        have HD := Aside0.mk hdrop
        have hl2 : (kept ++ m0 :: mr).length = j := by simp only [List.length_append, List.length_cons] at him ⊢; omega
        have cj : wr.cell? ⟨B, j, none⟩ = some (.string x) := by
          have := hrow.cell j (by rw [List.length_append, hl2, hdrop]; simp)
          rw [this, List.getElem_append_right (by omega)]
          congr 2
          simp [hl2, hdrop]
        have hrd := add_at B j
        have HRW := Aside0.mk hrow
        have HL2 := Aside0.mk hl2
        have HIM := Aside0.mk him
        have HKL := Aside0.mk hkl
        clear hxj hdrop hrow hl2 him
        have hil : i < zs.length := by have := HIM.out; simp only [List.length_cons] at this; omega
        go_wp2_with fail
        refine (HP.out wr x hox HWr.out).mono ?_
        rintro e W2 ⟨rfl, hb2⟩
        have HW2 := Aside0.mk (below_then HWr.out HWr.out.size hb2)
        have HR2 := Aside0.mk (HRW.out.below hb2)
        clear hb2 cj HWr HRW
        cases hpx : p x with
        | true =>
          have HPX := Aside0.mk hpx
          clear hpx
          go_wp2
          go_roundg (zs.length - (j + 1))
          case measure => omega
          case rel =>
            refine ⟨i, j + 1, rfl, by go_num, by omega, Nat.le_refl _, HW2, ⟨m0 :: (mr ++ [x]), ?_, ?_, by simp, ?_⟩⟩
            · rw [take_filter zs j hlt, HK.out, HX.out, HPX.out]
              simpa using HKL.out.symm
            · have := HIM.out
              simp only [List.length_cons, List.length_append, List.length_nil] at this ⊢
              omega
            · rw [take_filter zs j hlt, HK.out, HX.out, HPX.out]
              have := HR2.out
              rw [HD.out] at this
              simpa using this
        | false =>
          have HPX := Aside0.mk hpx
          clear hpx
          have ci : W2.cell? ⟨B, i, none⟩ = some (.string m0) := by
            have := HR2.out.cell i (by simp; omega)
            rw [this]
            congr 2
            have hk := HKL.out
            simp [← hk]
          have fi := HR2.out.free i
          have hi0 : (0 : Int) ≤ (i : Int) := by omega
          have hi1 : (i : Int) < (zs.length : Int) := by omega
          have hrdi := add_at B i
          go_wp2
          go_roundg (zs.length - (j + 1))
          case measure => omega
          case rel =>
            refine ⟨i + 1, j + 1, by go_num, by go_num, by omega, Nat.le_refl _, ⟨below_set HW2.out HB.out i _⟩, ⟨mr ++ [x], ?_, ?_, by simp, ?_⟩⟩
            · rw [take_filter zs j hlt, HK.out, HX.out, HPX.out]
              have := HKL.out
              simp [this]
            · have := HIM.out
              simp only [List.length_cons, List.length_append, List.length_nil] at this ⊢
              omega
            · rw [take_filter zs j hlt, HK.out, HX.out, HPX.out]
              have := HR2.out.set i (by simp; have := HKL.out; omega) x
              rw [HD.out, List.set_append, if_pos (by simp; have := HKL.out; omega), List.set_append, if_neg (by have := HKL.out; omega), HKL.out, Nat.sub_self, List.set_cons_zero] at this
              simpa using this
      · obtain rfl : j = zs.length := by omega
        have hltz : ¬ (zs.length : Int) < (zs.length : Int) := by omega
        have hil : i < zs.length := by simp only [List.length_cons] at him; omega
        have hrl : (kept ++ m0 :: mr).length = zs.length := by simp only [List.length_append, List.length_cons] at him ⊢; omega
        have hrow' : Row wr B cap (kept ++ m0 :: mr) := hrow.prefix_
        have hcl : ∀ ty, (Builtin.clear_ #[32] ty #[.slice (some ⟨B, i, none⟩) (zs.length - i) (cap - i)]).run Tryd.prog wr = .ok (.tuple #[]) (wr.setCells B i (List.replicate (zs.length - i) (.string ⟨#[]⟩))) :=
          fun ty => Lib.run_clear_slice wr _ _ ty _ Tryd.underlying32 Tryd.zeroValue9 rfl rfl B i _ _ (by omega) (fun t ht => by rw [hrow'.cell (i + t) (by omega)]; rfl) (fun t ht => hrow'.free _)
        have hend : Row (wr.setCells B i (List.replicate (zs.length - i) (.string ⟨#[]⟩))) B cap kept := Row.clear _ hrow'.prefix_ (by omega)
        have hbel : Below w0.heap.size w0 (wr.setCells B i (List.replicate (zs.length - i) (.string ⟨#[]⟩))) := below_sets HB.out _ HWr.out
        have HE := Aside0.mk hend
        have HL := Aside0.mk hbel
        have HKL := Aside0.mk hkl
        clear hend hbel hrow hrow' hkl him hrl
        have hi0 : (0 : Int) ≤ (i : Int) := by omega
        have hi1 : (i : Int) ≤ (zs.length : Int) := by omega
        have hadi := add_at B i
        have hadd0 := add_at B 0
        go_wp2
        go_ret
        have hk := HK.out
        rw [List.take_length] at hk
        rw [hk]
        exact ⟨by rw [HKL.out]; rfl, HL.out, HE.out⟩

set_option maxHeartbeats 1000000 in
theorem deleteFunc_nil (g : Nat) (lb : Array Value) (w : World) :
    Calls Tryd.prog 35 #[.slice none 0 0, .func (.func g) #[] lb] w fun e w' => e = .returned (.slice none 0 0) ∧ Below w.heap.size w w' := by
  have hI : Calls Tryd.prog 59 #[.slice none 0 0, .func (.func g) #[] lb] w fun e w' => e = .returned (.int .i64 (-1)) ∧ Below w.heap.size w w' := by
    go_enter Tryd.func59, Tryd.ntmps59
    go_wp2
    go_loopg [8] 0 (fun _ v wx => v = .int .i64 0 ∧ Below w.heap.size w wx)
    case atStart => exact ⟨rfl, Below.refl _ _⟩
    case round =>
      obtain ⟨rfl, HB⟩ := hrel
      go_wp2
      go_ret
      exact ⟨rfl, HB⟩
  go_enter Tryd.func35, Tryd.ntmps35
  go_wp2_with fail
  refine hI.mono ?_
  rintro e W1 ⟨rfl, hb1⟩
  clear hI
  go_wp2
  go_ret
  exact ⟨rfl, hb1⟩

/-! ### from the call's own row, and back -/
theorem row_of_R {W : World} {base : Nat} {ok : Nat → Prop} {v : Value} {xs : List ByteArray} (h : Kd.R Kd.string 9 W base ok v xs) :
    (v = .slice none 0 0 ∧ xs = []) ∨ ∃ (g cap : Nat), v = .slice (some ⟨g, 0, none⟩) xs.length cap ∧ base ≤ g ∧ xs.length ≤ cap ∧ cap ≤ 9223372036854775807 ∧ Row W g cap xs := by
  obtain ⟨_, inner, ⟨hil, ho⟩, hlen, hrep⟩ := h
  rcases ho with ⟨rfl, h0⟩ | ⟨g, cap, cur, rfl, hg, hh, hn, hm, hcs, htk⟩
  · exact .inl ⟨rfl, List.length_eq_zero_iff.1 h0⟩
  · have h1 : ∀ n : Nat, n * Kd.string.sz = n := fun n => Nat.mul_one n
    rw [h1] at hcs htk
    refine .inr ⟨g, cap, rfl, hg, hn, hm, cur, hh, hcs, fun j hj => ?_⟩
    have h2 : Kd.string.M W base _ xs[j] (List.take Kd.string.sz (List.drop (j * Kd.string.sz) inner)) := hrep j xs[j] (List.getElem?_eq_getElem hj)
    have h3 : List.take 1 (List.drop (j * 1) inner) = [.string xs[j]] := h2
    have h4 : inner[j]? = some (.string xs[j]) := by
      have := congrArg (·[0]?) h3
      simpa [List.getElem?_take, List.getElem?_drop] using this
    rw [← htk, List.getElem?_take, if_pos hj, Array.getElem?_toList] at h4
    exact h4
theorem R_of_row {W : World} {base g cap : Nat} {xs : List ByteArray} (hb : base ≤ g) (hl : xs.length ≤ cap) (hm : cap ≤ 9223372036854775807) (h : Row W g cap xs) : Kd.R Kd.string 9 W base (fun _ => True) (.slice (some ⟨g, 0, none⟩) xs.length cap) xs := by
  obtain ⟨arr, h1, h2, h3⟩ := h
  have hz : ∀ n : Nat, n * Kd.string.sz = n := fun n => Nat.mul_one n
  have ht : arr.toList.take xs.length = xs.map Value.string := by
    apply List.ext_getElem?
    intro j
    rw [List.getElem?_take]
    split
    · rename_i hj
      rw [List.getElem?_map, List.getElem?_eq_getElem hj]
      simpa using h3 j hj
    · rename_i hj
      rw [List.getElem?_eq_none (by simp; omega)]
  refine ⟨fun _ _ => trivial, xs.map Value.string, ⟨by rw [List.length_map, hz], .inr ⟨g, cap, arr, rfl, hb, h1, hl, hm, by rw [hz]; exact h2, by rw [hz]; exact ht⟩⟩, by rw [List.length_map, hz], fun j x hj => ?_⟩
  show List.take 1 (List.drop (j * 1) (xs.map Value.string)) = [.string x]
  have hjl : j < xs.length := by
    rcases Nat.lt_or_ge j xs.length with h | h
    · exact h
    · rw [List.getElem?_eq_none h] at hj; cases hj
  have hx : xs[j] = x := by
    rw [List.getElem?_eq_getElem hjl] at hj
    exact Option.some.inj hj
  rw [Nat.mul_one, List.drop_eq_getElem_cons (by simpa using hjl), List.getElem_map, hx]
  rfl
end Go.Proofs.YtaabfmpoodjhjaaDoor.Ext
