/-
  PLAIN LAWS: what the printed functions Method (safe), Preflight and those of the references come to. Conditions: rounds enough; sizes as told.
-/
import Derived.Test.YtaabfmpoodjhjaaDoorPureKxB
import Derived.Test.YtaabfmpoodjhjaaDoorFunPxB
namespace Go.Proofs.YtaabfmpoodjhjaaDoor.Fun
open Go.RowKit Go.Proofs.YtaabfmpoodjhjaaDoorW.PrintWords
open Go.Proofs.YtaabfmpoodjhjaaDoor.Ext (txt Big)

def lSafe : List (List UInt8) := [[71, 69, 84], [72, 69, 65, 68], [80, 79, 83, 84]]
def safeP (m : List UInt8) : Bool := lSafe.contains (Plain.method m)
theorem safem_f (s : ByteArray) (hs : s.size ≤ Big) (k : Nat) (hk : 6 < k) : safe_Method.f k s = some (safeP s.data.toList) := by
  unfold safe_Method.f safeP
  rw [method_f s hs k hk]
  simp only [Option.bind_some]
  rw [show ([(⟨#[71, 69, 84]⟩ : ByteArray), (⟨#[72, 69, 65, 68]⟩ : ByteArray), (⟨#[80, 79, 83, 84]⟩ : ByteArray)] : List ByteArray) = lSafe.map txt from rfl, contains_f _ _ (by decide) k (by show 3 < k; omega), idx_lists]
  rfl
/-! ### Preflight -/
def preflightP (o : List UInt8) (cred : Bool) (m : List UInt8) (us : List ByteArray) (st : Int) (l : List S40) : Bool :=
  decide (200 ≤ st) && decide (st ≤ 299) && checkP l o cred && (safeP m || (listP l nMethods).contains (Plain.method m) || allP (listP l nMethods) cred) && us.all fun s => headerP (listP l nHeaders) cred s.data.toList
theorem preflight_f {l : List S40} (h : Fits l) (o : ByteArray) (cred : Bool) (m : ByteArray) (hm : m.size ≤ Big) (us : List ByteArray) (hu : ∀ s ∈ us, s.size ≤ Big) (st : Int) (k : Nat) (hk : 3000000000000 < k) :
    cors_Preflight.f k o cred m us st l = some (preflightP o.data.toList cred m.data.toList us st l) := by
  obtain ⟨h1, _⟩ := listP_le h nMethods
  obtain ⟨h3, h4⟩ := listP_le h nHeaders
  have hlen := h.len
  unfold cors_Preflight.f preflightP
  rw [list_f h _ (by decide +kernel) k hk, list_f h _ (by decide +kernel) k hk,
    show (⟨#[97, 99, 99, 101, 115, 115, 45, 99, 111, 110, 116, 114, 111, 108, 45, 97, 108, 108, 111, 119, 45, 109, 101, 116, 104, 111, 100, 115]⟩ : ByteArray).data.toList = nMethods from rfl,
    show (⟨#[97, 99, 99, 101, 115, 115, 45, 99, 111, 110, 116, 114, 111, 108, 45, 97, 108, 108, 111, 119, 45, 104, 101, 97, 100, 101, 114, 115]⟩ : ByteArray).data.toList = nHeaders from rfl, safem_f m hm k (by omega), method_f m hm k (by omega), check_f h o cred k (by omega)]
  simp only [Option.bind_some]
  have e1 : cors_leave_exact.f k ((listP l nMethods).map txt) cred (txt (Plain.method m.data.toList)) = some ((listP l nMethods).contains (Plain.method m.data.toList)) := by
    unfold cors_leave_exact.f
    rw [contains_f _ _ (by rw [List.length_map]; omega) k (by rw [List.length_map]; omega), idx_lists]
    rfl
  have hg : ∀ s ∈ us, cors_leave_header.f k ((listP l nHeaders).map txt) cred s = some (headerP (listP l nHeaders) cred s.data.toList) := fun s hs => header_f _ h3 h4 cred s (hu s hs) k (by omega)
  have e2 : cors_Preflight.rest k ((listP l nHeaders).map txt) cred us = some (us.all fun s => headerP (listP l nHeaders) cred s.data.toList) := by
    unfold cors_Preflight.rest
    rw [if_pos]
    · congr 1
      rw [Bool.eq_iff_iff]
      simp only [Bool.not_eq_true', List.any_eq_false, List.all_eq_true, Bool.not_eq_true, Bool.not_eq_false']
      constructor
      · intro H s hs
        have := H s hs
        rw [hg s hs] at this
        simpa using this
      · intro H s hs
        rw [hg s hs]
        simpa using H s hs
    · rw [List.all_eq_true]
      intro s hs
      rw [hg s hs]
      rfl
  rw [e1, leaveall_f _ h1 cred k (by omega), e2]
  rfl
end Go.Proofs.YtaabfmpoodjhjaaDoor.Fun
