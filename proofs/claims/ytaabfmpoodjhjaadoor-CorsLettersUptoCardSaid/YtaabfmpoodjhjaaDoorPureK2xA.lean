/-
  PLAIN LAWS: what the printed functions Method (safe), Preflight and those of the references come to. Conditions: rounds enough; sizes as told.
-/
import Derived.Test.YtaabfmpoodjhjaaDoorPureKxA
import Derived.Test.YtaabfmpoodjhjaaDoorFunPxA
namespace Go.Proofs.YtaabfmpoodjhjaaDoor.Fun
open Go.RowKit Go.Proofs.YtaabfmpoodjhjaaDoorW.PrintWords
open Go.Proofs.YtaabfmpoodjhjaaDoor.Ext (txt Big)

theorem rmethod_l0 (s x : ByteArray) (l : List ByteArray) (hl : l.length ≤ 1000000000) (d : Nat) : ∀ (k i : Nat), l.length - i = d → i ≤ l.length → d < k → transeptref09_Method.l0 k s x l (l.length : Int) (i : Int) = some (if idxI (l.drop i) x then x else s) := by
  induction d with
  | zero =>
    intro k i hd hi hk
    obtain ⟨k, rfl⟩ : ∃ m, k = m + 1 := ⟨k - 1, by omega⟩
    simp only [transeptref09_Method.l0]
    rw [if_neg (by omega), drop_end (by omega)]
    rfl
  | succ d ih =>
    intro k i hd hi hk
    obtain ⟨k, rfl⟩ : ∃ m, k = m + 1 := ⟨k - 1, by omega⟩
    have hli : i < l.length := by omega
    simp only [transeptref09_Method.l0]
    rw [if_pos (by omega), if_pos (by omega), if_pos (by omega), rd_nat l i hli, drop_cons hli, idxI_cons]
    by_cases h : x.toList = l[i].toList
    · have h' := (eq_list _ _).1 h
      rw [if_pos h, decide_eq_true h', Bool.true_or, if_pos rfl, ← h']
    · have h' : ¬ x = l[i] := fun e => h ((eq_list _ _).2 e)
      rw [if_neg h, decide_eq_false h', Bool.false_or, wrap_in (by omega) (by omega), show ((i : Int) + 1) = ((i + 1 : Nat) : Int) from by omega, ih k (i + 1) (by omega) (by omega) (by omega)]
theorem rmethod_f (s : ByteArray) (hs : s.size ≤ Big) (k : Nat) (hk : 6 < k) : transeptref09_Method.f k s = some (txt (Plain.method s.data.toList)) := by
  unfold transeptref09_Method.f
  rw [Ext.turned_upper s hs]
  simp only [Option.bind_some]
  rw [show ([(⟨#[68, 69, 76, 69, 84, 69]⟩ : ByteArray), (⟨#[71, 69, 84]⟩ : ByteArray), (⟨#[72, 69, 65, 68]⟩ : ByteArray), (⟨#[79, 80, 84, 73, 79, 78, 83]⟩ : ByteArray), (⟨#[80, 79, 83, 84]⟩ : ByteArray), (⟨#[80, 85, 84]⟩ : ByteArray)] : List ByteArray) = Plain.methods.map txt from rfl]
  have := rmethod_l0 s (txt (Plain.upper s.data.toList)) (Plain.methods.map txt) (by decide) 6 k 0 rfl (by omega) hk
  rw [show (0 : Int) = ((0 : Nat) : Int) from rfl, this, List.drop_zero, idx_lists]
  unfold Plain.method
  split
  · rfl
  · rfl
def lSafe : List (List UInt8) := [[71, 69, 84], [72, 69, 65, 68], [80, 79, 83, 84]]
def safeP (m : List UInt8) : Bool := lSafe.contains (Plain.method m)
theorem safem_f (s : ByteArray) (hs : s.size ≤ Big) (k : Nat) (hk : 6 < k) : safe_Method.f k s = some (safeP s.data.toList) := by
  unfold safe_Method.f safeP
  rw [method_f s hs k hk]
  simp only [Option.bind_some]
  rw [show ([(⟨#[71, 69, 84]⟩ : ByteArray), (⟨#[72, 69, 65, 68]⟩ : ByteArray), (⟨#[80, 79, 83, 84]⟩ : ByteArray)] : List ByteArray) = lSafe.map txt from rfl, contains_f _ _ (by decide) k (by show 3 < k; omega), idx_lists]
  rfl
theorem rsafem_f (s : ByteArray) (hs : s.size ≤ Big) (k : Nat) (hk : 6 < k) : transeptref12_Method.f k s = some (safeP s.data.toList) := by
  unfold transeptref12_Method.f safeP
  rw [rmethod_f s hs k hk]
  simp only [Option.bind_some]
  rw [show ([(⟨#[71, 69, 84]⟩ : ByteArray), (⟨#[72, 69, 65, 68]⟩ : ByteArray), (⟨#[80, 79, 83, 84]⟩ : ByteArray)] : List ByteArray) = lSafe.map txt from rfl, among_f _ _ (by decide) k (by show 3 < k; omega), idx_lists]
  rfl
theorem method_le (m : List UInt8) : (Plain.method m).length ≤ m.length := by
  unfold Plain.method
  split
  · rw [Plain.upper_length]
    exact Nat.le_refl _
  · exact Nat.le_refl _

/-! ### Preflight -/
def preflightP (o : List UInt8) (cred : Bool) (m : List UInt8) (us : List ByteArray) (st : Int) (l : List S40) : Bool :=
  decide (200 ≤ st) && decide (st ≤ 299) && checkP l o cred && (safeP m || (listP l nMethods).contains (Plain.method m) || allP (listP l nMethods) cred) && us.all fun s => headerP (listP l nHeaders) cred s.data.toList
theorem preflight_f {l : List S40} (h : Fits l) (o : ByteArray) (cred : Bool) (m : ByteArray) (hm : m.size ≤ Big) (us : List ByteArray) (hu : ∀ s ∈ us, s.size ≤ Big) (st : Int) (k : Nat) (hk : 3000000000000 < k) :
    cors_Preflight.f k o cred m us st l = some (preflightP o.data.toList cred m.data.toList us st l) := by
  obtain ⟨h1, _⟩ := listP_le h nMethods
  obtain ⟨h3, h4⟩ := listP_le h nHeaders
  have hlen := h.len
  unfold cors_Preflight.f preflightP
  rw [list_f h _ (by decide +kernel) k hk, list_f h _ (by decide +kernel) k hk,
    show (⟨#[97, 99, 99, 101, 115, 115, 45, 99, 111, 110, 116, 114, 111, 108, 45, 97, 108, 108, 111, 119, 45, 109, 101, 116, 104, 111, 100, 115]⟩ : ByteArray).data.toList = nMethods from rfl,
    show (⟨#[97, 99, 99, 101, 115, 115, 45, 99, 111, 110, 116, 114, 111, 108, 45, 97, 108, 108, 111, 119, 45, 104, 101, 97, 100, 101, 114, 115]⟩ : ByteArray).data.toList = nHeaders from rfl, safem_f m hm k (by omega), method_f m hm k (by omega), check_f h o cred k (by omega)]
  simp only [Option.bind_some]
  have e1 : cors_leave_exact.f k ((listP l nMethods).map txt) cred (txt (Plain.method m.data.toList)) = some ((listP l nMethods).contains (Plain.method m.data.toList)) := by
    unfold cors_leave_exact.f
    rw [contains_f _ _ (by rw [List.length_map]; omega) k (by rw [List.length_map]; omega), idx_lists]
    rfl
  have hg : ∀ s ∈ us, cors_leave_header.f k ((listP l nHeaders).map txt) cred s = some (headerP (listP l nHeaders) cred s.data.toList) := fun s hs => header_f _ h3 h4 cred s (hu s hs) k (by omega)
  have e2 : cors_Preflight.rest k ((listP l nHeaders).map txt) cred us = some (us.all fun s => headerP (listP l nHeaders) cred s.data.toList) := by
    unfold cors_Preflight.rest
    rw [if_pos]
    · congr 1
      rw [Bool.eq_iff_iff]
      simp only [Bool.not_eq_true', List.any_eq_false, List.all_eq_true, Bool.not_eq_true, Bool.not_eq_false']
      constructor
      · intro H s hs
        have := H s hs
        rw [hg s hs] at this
        simpa using this
      · intro H s hs
        rw [hg s hs]
        simpa using H s hs
    · rw [List.all_eq_true]
      intro s hs
      rw [hg s hs]
      rfl
  rw [e1, leaveall_f _ h1 cred k (by omega), e2]
  rfl
theorem rpre_l0 (ns : List (List UInt8)) (h1 : ns.length ≤ 1200000000000) (h2 : ∀ p ∈ ns, p.length ≤ 1200000000000) (cred : Bool) (us : List ByteArray) (hl : us.length ≤ 1000000000) (hu : ∀ s ∈ us, s.size ≤ 1200000000000) (d : Nat) : ∀ (k i : Nat), us.length - i = d → i ≤ us.length → d + 1300000000000 < k →
    transeptref17_Preflight.l0 k cred us (ns.map txt) (i : Int) = some ((us.drop i).all fun s => headerP ns cred s.data.toList) := by
  induction d with
  | zero =>
    intro k i hd hi hk
    obtain ⟨k, rfl⟩ : ∃ m, k = m + 1 := ⟨k - 1, by omega⟩
    simp only [transeptref17_Preflight.l0]
    rw [if_neg (by omega), drop_end (by omega)]
    rfl
  | succ d ih =>
    intro k i hd hi hk
    obtain ⟨k, rfl⟩ : ∃ m, k = m + 1 := ⟨k - 1, by omega⟩
    have hli : i < us.length := by omega
    have hsi := hu us[i] (List.getElem_mem hli)
    have hih := ih k (i + 1) (by omega) (by omega) (by omega)
    have e1 : transeptref17_has.f k (ns.map txt) us[i] true = some (foldedP ns us[i].data.toList) := by rw [has_f ns h1 h2 _ hsi true k (by omega), has_true]
    have e2 : transeptref17_has.f k (ns.map txt) ⟨#[42]⟩ false = some (ns.contains [42]) := by rw [has_f ns h1 h2 _ (by decide +kernel) false k (by omega), show (⟨#[42]⟩ : ByteArray).data.toList = [42] from rfl, has_false]
    have e3 : (Plain.lower us[i].data.toList = auth) ↔ Plain.foldB us[i].data.toList auth = true := by
      unfold Plain.foldB
      rw [beq_iff_eq, show Plain.lower auth = auth from by decide +kernel]
    have hlow := frlower us[i] (by unfold Ext.Big; omega)
    have hw : wrap64 ((i : Int) + 1) = ((i + 1 : Nat) : Int) := by
      rw [wrap_in (by omega) (by omega)]
      omega
    have h0 : (0 : Int) ≤ (i : Int) := by omega
    have hlt : (i : Int) < (us.length : Int) := by omega
    simp only [transeptref17_Preflight.l0, if_pos h0, if_pos hlt, rd_V us i hli, e1, e2, hlow, hw, hih, Option.bind_some, ftl]
    rw [drop_cons hli, List.all_cons]
    unfold headerP allP
    try rw [show ([97, 117, 116, 104, 111, 114, 105, 122, 97, 116, 105, 111, 110] : List UInt8) = auth from rfl]
    by_cases ha : Plain.lower us[i].data.toList = auth
    · have ha' := e3.1 ha
      cases cred <;> cases foldedP ns us[i].data.toList <;> cases ns.contains [42] <;> simp [ha, ha']
    · have ha' : Plain.foldB us[i].data.toList auth = false := Bool.eq_false_iff.mpr (fun h => ha (e3.2 h))
      cases cred <;> cases foldedP ns us[i].data.toList <;> cases ns.contains [42] <;> simp [ha, ha']
theorem rpreflight_f {l : List S40} (h : Fits l) (o : ByteArray) (cred : Bool) (m : ByteArray) (hm : m.size ≤ 1000000000000) (us : List ByteArray) (hl : us.length ≤ 1000000000) (hu : ∀ s ∈ us, s.size ≤ 1200000000000) (st : Int) (k : Nat) (hk : 8000000000010 < k) :
    transeptref17_Preflight.f k o cred m us st (l.map conv) = some (preflightP o.data.toList cred m.data.toList us st l) := by
  obtain ⟨h1, h2⟩ := listP_le h nMethods
  obtain ⟨h3, h4⟩ := listP_le h nHeaders
  have hlen := h.len
  have hB : m.size ≤ Big := by unfold Ext.Big; omega
  obtain ⟨k, rfl⟩ : ∃ j, k = j + 2 := ⟨k - 2, by omega⟩
  have ej1 : ∀ q : Bool, transeptref17_Preflight.j1 (k + 1) cred us ((listP l nHeaders).map txt) q = some (!q && us.all fun s => headerP (listP l nHeaders) cred s.data.toList) := by
    intro q
    simp only [transeptref17_Preflight.j1]
    cases q with
    | true => rfl
    | false =>
      rw [if_neg (by decide)]
      have := rpre_l0 _ h3 h4 cred us hl hu _ k 0 rfl (by omega) (by omega)
      rw [List.drop_zero] at this
      exact this
  have ej0 : transeptref17_Preflight.j0 (k + 1 + 1) cred m us (l.map conv) false = some ((safeP m.data.toList || (listP l nMethods).contains (Plain.method m.data.toList) || allP (listP l nMethods) cred) && us.all fun s => headerP (listP l nHeaders) cred s.data.toList) := by
    simp only [transeptref17_Preflight.j0]
    rw [if_neg (by decide), rlist_f h _ (by decide +kernel) (k + 1) (by omega), rlist_f h _ (by decide +kernel) (k + 1) (by omega),
      show (⟨#[97, 99, 99, 101, 115, 115, 45, 99, 111, 110, 116, 114, 111, 108, 45, 97, 108, 108, 111, 119, 45, 109, 101, 116, 104, 111, 100, 115]⟩ : ByteArray).data.toList = nMethods from rfl,
      show (⟨#[97, 99, 99, 101, 115, 115, 45, 99, 111, 110, 116, 114, 111, 108, 45, 97, 108, 108, 111, 119, 45, 104, 101, 97, 100, 101, 114, 115]⟩ : ByteArray).data.toList = nHeaders from rfl, rmethod_f m hB (k + 1) (by omega), rsafem_f m hB (k + 1) (by omega)]
    simp only [Option.bind_some]
    have hml : (Plain.method m.data.toList).length ≤ m.size := by
      have := method_le m.data.toList
      rw [len_eq] at this
      exact this
    have e1 : transeptref17_has.f (k + 1) ((listP l nMethods).map txt) (txt (Plain.method m.data.toList)) false = some ((listP l nMethods).contains (Plain.method m.data.toList)) := by
      rw [has_f _ h1 h2 _ (by rw [Ext.txt_size]; omega) false (k + 1) (by omega), Ext.txt_data, has_false]
    have e2 : transeptref17_has.f (k + 1) ((listP l nMethods).map txt) ⟨#[42]⟩ false = some ((listP l nMethods).contains [42]) := by rw [has_f _ h1 h2 _ (by decide +kernel) false (k + 1) (by omega), show (⟨#[42]⟩ : ByteArray).data.toList = [42] from rfl, has_false]
    rw [e1, e2]
    simp only [Option.bind_some, ej1]
    unfold allP
    cases safeP m.data.toList <;> cases (listP l nMethods).contains (Plain.method m.data.toList) <;> cases cred <;> cases (listP l nMethods).contains [42] <;> simp
  have ej0t : transeptref17_Preflight.j0 (k + 1 + 1) cred m us (l.map conv) true = some false := by
    simp only [transeptref17_Preflight.j0]
    rfl
  unfold transeptref17_Preflight.f preflightP
  rw [rcheck_f h o cred _ (by omega)]
  simp only [Option.bind_some]
  rw [show k + 2 = k + 1 + 1 from rfl, ej0t]
  by_cases a1 : st < 200
  · rw [if_pos a1, decide_eq_false (show ¬ 200 ≤ st by omega)]
    simp
  · rw [if_neg a1, decide_eq_true (show 200 ≤ st by omega)]
    by_cases a2 : st > 299
    · rw [if_pos a2, decide_eq_false (show ¬ st ≤ 299 by omega)]
      simp
    · rw [if_neg a2, decide_eq_true (show st ≤ 299 by omega)]
      cases checkP l o.data.toList cred with
      | false =>
        rw [show (!false) = true from rfl, ej0t]
        simp
      | true =>
        rw [show (!true) = false from rfl, ej0]
        simp
end Go.Proofs.YtaabfmpoodjhjaaDoor.Fun
