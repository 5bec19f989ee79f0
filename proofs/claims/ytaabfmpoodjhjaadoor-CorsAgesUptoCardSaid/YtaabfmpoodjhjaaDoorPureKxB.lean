/-
  PLAIN LAWS: what the printed functions of layers 12 and 17 (Only, Check, Age, List, Hidden, Reads, Exposes) and those of the references come to. Conditions: rounds enough; sizes as told.
-/
import Derived.Test.YtaabfmpoodjhjaaDoorPureFxB
namespace Go.Proofs.YtaabfmpoodjhjaaDoor.Fun
open Go.RowKit Go.Proofs.YtaabfmpoodjhjaaDoorW.PrintWords
open Go.Proofs.YtaabfmpoodjhjaaDoor.Ext (txt Big)

def nOrigin : List UInt8 := [97, 99, 99, 101, 115, 115, 45, 99, 111, 110, 116, 114, 111, 108, 45, 97, 108, 108, 111, 119, 45, 111, 114, 105, 103, 105, 110]
def nCred : List UInt8 := [97, 99, 99, 101, 115, 115, 45, 99, 111, 110, 116, 114, 111, 108, 45, 97, 108, 108, 111, 119, 45, 99, 114, 101, 100, 101, 110, 116, 105, 97, 108, 115]
def nAge : List UInt8 := [97, 99, 99, 101, 115, 115, 45, 99, 111, 110, 116, 114, 111, 108, 45, 109, 97, 120, 45, 97, 103, 101]
def nExpose : List UInt8 := [97, 99, 99, 101, 115, 115, 45, 99, 111, 110, 116, 114, 111, 108, 45, 101, 120, 112, 111, 115, 101, 45, 104, 101, 97, 100, 101, 114, 115]
def nMethods : List UInt8 := [97, 99, 99, 101, 115, 115, 45, 99, 111, 110, 116, 114, 111, 108, 45, 97, 108, 108, 111, 119, 45, 109, 101, 116, 104, 111, 100, 115]
def nHeaders : List UInt8 := [97, 99, 99, 101, 115, 115, 45, 99, 111, 110, 116, 114, 111, 108, 45, 97, 108, 108, 111, 119, 45, 104, 101, 97, 100, 101, 114, 115]

/-! ### Only -/
def onlyP (l : List S40) (name : List UInt8) : List UInt8 × Bool := match sel l name with
  | [v] => (v.data.toList, true)
  | _ => ([], false)
theorem onlyP_le {l : List S40} (h : Fits l) (name : List UInt8) : (onlyP l name).1.length ≤ 1048577 := by
  unfold onlyP
  split
  · rename_i v hv
    obtain ⟨f, hf, e⟩ := sel_mem (l := l) (name := name) (v := v) (by rw [hv]; exact List.mem_cons_self ..)
    have := h.value f hf
    show v.data.toList.length ≤ _
    rw [len_eq, ← e]
    exact this
  · exact Nat.zero_le _
theorem only_f {l : List S40} (h : Fits l) (a : ByteArray) (ha : a.size ≤ Big) (k : Nat) (hk : l.length < k) : field_Only.f k l a = some (txt (onlyP l a.data.toList).1, (onlyP l a.data.toList).2) := by
  have h1 := h.len
  unfold field_Only.f onlyP
  rw [values_f l a ha h.big (by omega) k hk]
  simp only [Option.bind_some]
  match hs : sel l a.data.toList with
  | [] => rfl
  | [v] =>
    rw [if_pos (by rfl), if_pos (by show (0 : Int) < 1; omega), Ext.txt_self]
    rfl
  | v :: w :: r =>
    rw [if_neg (by simp only [List.length_cons]; omega)]
    rfl
/-! ### Check -/
def checkB (s t : List UInt8 × Bool) (o : List UInt8) (cred : Bool) : Bool :=
  if cred = true then s.2 && (s.1 == o && (t.2 && t.1 == [116, 114, 117, 101])) else s.2 && (s.1 == [42] || s.1 == o)
def checkP (l : List S40) (o : List UInt8) (cred : Bool) : Bool := checkB (onlyP l nOrigin) (onlyP l nCred) o cred
theorem beq_dec (a b : List UInt8) : (a == b) = decide (a = b) := by
  rw [Bool.eq_iff_iff]
  simp
theorem ite_some {p : Prop} [Decidable p] {a b : Bool} : (if p then some a else some b) = some (if p then a else b) := by split <;> rfl
theorem check_f {l : List S40} (h : Fits l) (o : ByteArray) (cred : Bool) (k : Nat) (hk : l.length < k) : cors_Check.f k o cred l = some (checkP l o.data.toList cred) := by
  unfold cors_Check.f checkP
  rw [only_f h _ (by decide +kernel) k hk, only_f h _ (by decide +kernel) k hk]
  rw [show (⟨#[97, 99, 99, 101, 115, 115, 45, 99, 111, 110, 116, 114, 111, 108, 45, 97, 108, 108, 111, 119, 45, 111, 114, 105, 103, 105, 110]⟩ : ByteArray).data.toList = nOrigin from rfl, show (⟨#[97, 99, 99, 101, 115, 115, 45, 99, 111, 110, 116, 114, 111, 108, 45, 97, 108, 108, 111, 119, 45, 99, 114, 101, 100, 101, 110, 116, 105, 97, 108, 115]⟩ : ByteArray).data.toList = nCred from rfl]
  simp only [Option.bind_some]
  generalize onlyP l nOrigin = s
  generalize onlyP l nCred = t
  obtain ⟨s1, s2⟩ := s
  obtain ⟨t1, t2⟩ := t
  simp only [ftl, list_eq o]
  unfold checkB
  cases cred <;> cases s2 <;> cases t2 <;> first | (simp [ite_some]; done) | (simp [ite_some, beq_dec]; done)
/-! ### Number, Age -/
def ageP (l : List S40) : Int := if (onlyP l nAge).2 = true then (if (Ext.numB (onlyP l nAge).1 7200).2 = true then (Ext.numB (onlyP l nAge).1 7200).1 else 5) else 5
theorem age_f {l : List S40} (h : Fits l) (k : Nat) (hk : l.length < k) : cors_Age.f k l = some (ageP l) := by
  have hle := onlyP_le h nAge
  unfold cors_Age.f ageP
  rw [only_f h _ (by decide +kernel) k hk]
  rw [show (⟨#[97, 99, 99, 101, 115, 115, 45, 99, 111, 110, 116, 114, 111, 108, 45, 109, 97, 120, 45, 97, 103, 101]⟩ : ByteArray).data.toList = nAge from rfl]
  simp only [Option.bind_some]
  have hn : Ext.field_Number.f (txt (onlyP l nAge).1) 7200 = some (Ext.numB (onlyP l nAge).1 7200) := by
    unfold Ext.field_Number.f
    rw [if_pos (by rw [Ext.txt_size]; unfold Ext.Big; omega), Ext.txt_data]
  rw [hn]
  simp only [Option.bind_some]
  split
  · split <;> rfl
  · rfl
/-! ### List -/
theorem parts_mem (l : List UInt8) : ∀ p ∈ Plain.parts l, p.length ≤ l.length := by
  have go : ∀ (l : List UInt8) (st : Nat) (cur p : List UInt8), p ∈ Plain.partsGo st cur l → p.length ≤ cur.length + l.length := by
    intro l
    induction l with
    | nil =>
      intro st cur p hp
      have : p = Plain.trimP Plain.isTab cur.reverse := by simpa [Plain.partsGo] using hp
      rw [this]
      have := Plain.trimP_length Plain.isTab cur.reverse
      rw [List.length_reverse] at this
      simpa using this
    | cons c r ih =>
      intro st cur p hp
      rw [Plain.partsGo] at hp
      split at hp
      · rcases List.mem_cons.1 hp with rfl | hp
        · have := Plain.trimP_length Plain.isTab cur.reverse
          rw [List.length_reverse] at this
          rw [List.length_cons]
          omega
        · have := ih 0 [] p hp
          simp only [List.length_nil, List.length_cons] at this ⊢
          omega
      · have := ih _ _ p hp
        simp only [List.length_cons] at this ⊢
        omega
  intro p hp
  have := go l 0 [] p hp
  simpa using this
theorem split_le {l : List S40} (h : Fits l) (name : List UInt8) : (splitP l name).length ≤ 1200000000000 ∧ ∀ p ∈ splitP l name, p.length ≤ 1200000000000 := by
  have h3 := h.joined name
  have h4 := parts_le (joined (sel l name))
  unfold splitP
  split
  · refine ⟨by omega, fun p hp => ?_⟩
    have := parts_mem _ p hp
    omega
  · exact ⟨by simp, fun p hp => by cases hp⟩
def listP (l : List S40) (name : List UInt8) : List (List UInt8) := (splitP l name).filter Plain.nameB
theorem listP_le {l : List S40} (h : Fits l) (name : List UInt8) : (listP l name).length ≤ 1200000000000 ∧ ∀ p ∈ listP l name, p.length ≤ 1200000000000 := by
  obtain ⟨h1, h2⟩ := split_le h name
  unfold listP
  exact ⟨Nat.le_trans (List.length_filter_le _ _) h1, fun p hp => h2 p (List.mem_filter.1 hp).1⟩
theorem filter_txt (ps : List (List UInt8)) : (ps.map txt).filter (fun x => Plain.nameB x.data.toList) = (ps.filter Plain.nameB).map txt := by
  rw [List.filter_map]
  have : ((fun x : ByteArray => Plain.nameB x.data.toList) ∘ txt) = Plain.nameB := by
    funext p
    simp only [Function.comp_apply, Ext.txt_data]
  rw [this]
theorem list_f {l : List S40} (h : Fits l) (a : ByteArray) (ha : a.size ≤ Big) (k : Nat) (hk : 3000000000000 < k) : cors_List.f k l a = some ((listP l a.data.toList).map txt) := by
  obtain ⟨h1, h2⟩ := split_le h a.data.toList
  unfold cors_List.f
  rw [split_f h a ha k hk]
  simp only [Option.bind_some]
  rw [if_pos, filter_txt]
  · rfl
  · rw [List.all_eq_true]
    intro x hx
    obtain ⟨p, hp, rfl⟩ := List.mem_map.1 hx
    have := h2 p hp
    rw [decide_eq_true_eq, Ext.txt_size]
    unfold Ext.Big
    omega
/-! ### Hidden, Reads -/
def lHidden : List (List UInt8) := [[115, 101, 116, 45, 99, 111, 111, 107, 105, 101], [115, 101, 116, 45, 99, 111, 111, 107, 105, 101, 50]]
def lReads : List (List UInt8) := [[99, 97, 99, 104, 101, 45, 99, 111, 110, 116, 114, 111, 108], [99, 111, 110, 116, 101, 110, 116, 45, 108, 97, 110, 103, 117, 97, 103, 101], [99, 111, 110, 116, 101, 110, 116, 45, 108, 101, 110, 103, 116, 104], [99, 111, 110, 116, 101, 110, 116, 45, 116, 121, 112, 101], [101, 120, 112, 105, 114, 101, 115], [108, 97, 115, 116, 45, 109, 111, 100, 105, 102, 105, 101, 100], [112, 114, 97, 103, 109, 97]]
def hiddenP (s : List UInt8) : Bool := lHidden.contains (Plain.lower s)
def readsP (s : List UInt8) : Bool := lReads.contains (Plain.lower s)
theorem hidden_f (s : ByteArray) (hs : s.size ≤ Big) : safe_Hidden.f s = some (hiddenP s.data.toList) := by
  unfold safe_Hidden.f hiddenP
  rw [flower s hs]
  simp only [Option.bind_some, ftl]
  generalize Plain.lower s.data.toList = x
  unfold lHidden
  by_cases h : x = [115, 101, 116, 45, 99, 111, 111, 107, 105, 101]
  · rw [if_pos h, h]
    rfl
  · rw [if_neg h]
    simp [h, beq_dec]
theorem reads_f (s : ByteArray) (hs : s.size ≤ Big) (k : Nat) (hk : 10 < k) : safe_Reads.f k s = some (readsP s.data.toList) := by
  unfold safe_Reads.f readsP
  rw [flower s hs]
  simp only [Option.bind_some]
  rw [show ([(⟨#[99, 97, 99, 104, 101, 45, 99, 111, 110, 116, 114, 111, 108]⟩ : ByteArray), (⟨#[99, 111, 110, 116, 101, 110, 116, 45, 108, 97, 110, 103, 117, 97, 103, 101]⟩ : ByteArray), (⟨#[99, 111, 110, 116, 101, 110, 116, 45, 108, 101, 110, 103, 116, 104]⟩ : ByteArray), (⟨#[99, 111, 110, 116, 101, 110, 116, 45, 116, 121, 112, 101]⟩ : ByteArray), (⟨#[101, 120, 112, 105, 114, 101, 115]⟩ : ByteArray), (⟨#[108, 97, 115, 116, 45, 109, 111, 100, 105, 102, 105, 101, 100]⟩ : ByteArray), (⟨#[112, 114, 97, 103, 109, 97]⟩ : ByteArray)] : List ByteArray) = lReads.map txt from rfl, contains_f _ _ (by decide) k (by show 7 < k; omega), idx_lists]
  rfl
/-! ### leave -/
def foldedP (ns : List (List UInt8)) (s : List UInt8) : Bool := ns.any fun x => Plain.foldB x s
def allP (ns : List (List UInt8)) (cred : Bool) : Bool := !cred && ns.contains [42]
def auth : List UInt8 := [97, 117, 116, 104, 111, 114, 105, 122, 97, 116, 105, 111, 110]
def headerP (ns : List (List UInt8)) (cred : Bool) (s : List UInt8) : Bool := foldedP ns s || (allP ns cred && !Plain.foldB s auth)
theorem folded_f (ns : List (List UInt8)) (hs : ∀ p ∈ ns, p.length ≤ 1200000000000) (cred : Bool) (s : ByteArray) (h : s.size ≤ Big) : Ext.cors_leave_folded.f (ns.map txt) cred s = some (foldedP ns s.data.toList) := by
  unfold Ext.cors_leave_folded.f foldedP
  rw [if_pos]
  · rw [List.any_map]
    simp only [Function.comp_def, Ext.txt_data]
  · refine ⟨h, ?_⟩
    rw [List.all_eq_true]
    intro x hx
    obtain ⟨p, hp, rfl⟩ := List.mem_map.1 hx
    have := hs p hp
    rw [decide_eq_true_eq, Ext.txt_size]
    unfold Ext.Big
    omega
theorem leaveall_f (ns : List (List UInt8)) (hl : ns.length ≤ 1200000000000) (cred : Bool) (k : Nat) (hk : 1200000000001 < k) : cors_leave_all.f k (ns.map txt) cred = some (allP ns cred) := by
  unfold cors_leave_all.f allP
  cases cred with
  | true => rfl
  | false =>
    rw [if_neg (by decide), show (⟨#[42]⟩ : ByteArray) = txt [42] from rfl, contains_f _ _ (by rw [List.length_map]; omega) k (by rw [List.length_map]; omega), idx_lists]
    rfl
theorem header_f (ns : List (List UInt8)) (hl : ns.length ≤ 1200000000000) (hs : ∀ p ∈ ns, p.length ≤ 1200000000000) (cred : Bool) (s : ByteArray) (h : s.size ≤ Big) (k : Nat) (hk : 1200000000001 < k) : cors_leave_header.f k (ns.map txt) cred s = some (headerP ns cred s.data.toList) := by
  unfold cors_leave_header.f headerP
  rw [folded_f ns hs cred s h, leaveall_f ns hl cred k hk, ffold s _ h (by decide +kernel), show (⟨#[97, 117, 116, 104, 111, 114, 105, 122, 97, 116, 105, 111, 110]⟩ : ByteArray).data.toList = auth from rfl]
  simp only [Option.bind_some]
  cases foldedP ns s.data.toList <;> cases allP ns cred <;> simp
/-! ### Exposes -/
def exposesP (name : List UInt8) (cred : Bool) (l : List S40) : Bool := !hiddenP name && (readsP name || (foldedP (listP l nExpose) name || allP (listP l nExpose) cred))
theorem exposes_f {l : List S40} (h : Fits l) (name : ByteArray) (hn : name.size ≤ Big) (cred : Bool) (k : Nat) (hk : 3000000000000 < k) : cors_Exposes.f k name cred l = some (exposesP name.data.toList cred l) := by
  obtain ⟨h1, h2⟩ := listP_le h nExpose
  unfold cors_Exposes.f exposesP
  rw [list_f h _ (by decide +kernel) k hk, hidden_f name hn, reads_f name hn k (by omega), show (⟨#[97, 99, 99, 101, 115, 115, 45, 99, 111, 110, 116, 114, 111, 108, 45, 101, 120, 112, 111, 115, 101, 45, 104, 101, 97, 100, 101, 114, 115]⟩ : ByteArray).data.toList = nExpose from rfl]
  simp only [Option.bind_some]
  rw [folded_f _ h2 cred name hn, leaveall_f _ h1 cred k (by omega)]
  simp only [Option.bind_some]
  cases hiddenP name.data.toList <;> cases readsP name.data.toList <;> cases foldedP (listP l nExpose) name.data.toList <;> cases allP (listP l nExpose) cred <;> rfl
/-! ### few -/
theorem mn_50 (n : Nat) : mn (n : Int) 50 = ((min n 50 : Nat) : Int) := by
  unfold mn
  split <;> omega
theorem Fits.take {l : List S40} (h : Fits l) (n : Nat) : Fits (l.take n) :=
  ⟨by have := h.len; rw [List.length_take]; omega, fun f hf => h.name f (List.mem_of_mem_take hf), fun f hf => h.value f (List.mem_of_mem_take hf)⟩
end Go.Proofs.YtaabfmpoodjhjaaDoor.Fun
