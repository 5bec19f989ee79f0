/-
  The functions of layer 9 that the print does not take, each as a plain function with the proof that the Go code answers just this. Conditions: those that stand in the plain function; the tables of unicode/utf8 where Tabs stands.
-/
import Derived.Test.YtikhboebmmmopaaDoorExtC
import Derived.Shelf.Strings.SlTrimAscii
namespace Go.Proofs.YtikhboebmmmopaaDoor.Ext
open Go.RowKit Go.Proofs.YtikhboebmmmopaaDoorW.PrintWords

/-- the most that an int counts -/
def Big : Nat := 9223372036854775807
/-- a text out of bytes -/
def txt (l : List UInt8) : ByteArray := ⟨l.toArray⟩
theorem txt_data (l : List UInt8) : (txt l).data.toList = l := rfl
theorem txt_size (l : List UInt8) : (txt l).size = l.length := by rw [Lib.size_eq]; rfl
theorem txt_self (s : ByteArray) : txt s.data.toList = s := rfl
theorem txt_inj {a b : List UInt8} (h : txt a = txt b) : a = b := by
  have := congrArg (fun x : ByteArray => x.data.toList) h
  exact this
theorem data_inj {a b : ByteArray} (h : a.data.toList = b.data.toList) : a = b := by
  rw [← txt_self a, ← txt_self b, h]

theorem ne_nil_empty (l : List UInt8) : (l != []) = !l.isEmpty := by cases l <;> rfl

def token_Name.f (a0 : ByteArray) : Option (Bool) := if a0.size ≤ Big then some (Plain.nameB a0.data.toList) else none
theorem token_Name.calls (a0 : ByteArray) (r : Bool) (w : World) (hT : Tabs w) (h : token_Name.f a0 = some r) :
    Calls Tryd.prog 49 #[.string a0] w fun e w' => e = .returned (.bool r) ∧ Below w.heap.size w w' := by
  unfold token_Name.f at h
  split at h
  · rename_i hs
    obtain rfl := Option.some.inj h
    exact name_any a0 w hT hs
  · cases h

theorem takeWhile_all {p : UInt8 → Bool} : ∀ (l : List UInt8) c, c ∈ l.takeWhile p → p c = true
  | [], c, h => by simp at h
  | a :: r, c, h => by
    rw [List.takeWhile_cons] at h
    split at h
    · rename_i ha
      rcases List.mem_cons.1 h with rfl | h
      · exact ha
      · exact takeWhile_all r c h
    · simp at h
theorem trims_comm (l cs : List UInt8) : Lib.trimS l cs = Plain.trimP (cs.contains ·) l := by
  -- the document's order: ahead, then behind
  have key : ∀ m : List UInt8, Lib.trimLeftS (Lib.trimRightS m cs) cs = Lib.trimRightS (Lib.trimLeftS m cs) cs := by
    intro m
    obtain ⟨a, b, ha, hb⟩ : ∃ a b : List UInt8, m = a ++ b ∧ (∀ c ∈ a, cs.contains c = true) ∧ Lib.trimLeftS m cs = b := by
      refine ⟨m.takeWhile (cs.contains ·), m.dropWhile (cs.contains ·), List.takeWhile_append_dropWhile.symm, fun c hc => ?_, rfl⟩
      exact takeWhile_all m c hc
    obtain ⟨hba, hbl⟩ := hb
    rw [hbl]
    by_cases h0 : b = []
    · subst h0
      have hall : ∀ c ∈ m, cs.contains c = true := by rw [ha]; simpa using hba
      have h1 : Lib.trimRightS m cs = [] := by
        unfold Lib.trimRightS
        rw [(Plain.dropWhile_nil_iff m.reverse).2 (fun c hc => hall c (List.mem_reverse.1 hc))]
        rfl
      rw [h1]
      rfl
    · have hh := Plain.dropWhile_head (p := (cs.contains ·)) m
      have hb0 : ∀ c, b.head? = some c → cs.contains c = false := fun c hc => hh c (by rw [← hbl] at hc; exact hc)
      have h1 : b.reverse.dropWhile (cs.contains ·) ≠ [] := by
        intro h
        have := (Plain.dropWhile_nil_iff _).1 h
        cases b with
        | nil => exact h0 rfl
        | cons x r =>
          have h2 := this x (by simp)
          rw [hb0 x rfl] at h2
          cases h2
      unfold Lib.trimRightS
      rw [ha, List.reverse_append, Plain.dropWhile_append_ne _ _ h1, List.reverse_append, List.reverse_reverse]
      unfold Lib.trimLeftS
      rw [Plain.dropWhile_append_all _ _ hba]
      refine Plain.dropWhile_id (fun c hc => hb0 c ?_)
      cases b with
      | nil => exact absurd rfl h0
      | cons x r =>
        rw [List.reverse_cons] at hc h1
        by_cases h2 : r.reverse.dropWhile (cs.contains ·) = []
        · rw [Plain.dropWhile_append_all _ _ ((Plain.dropWhile_nil_iff _).1 h2), List.dropWhile_cons, hb0 x rfl] at hc
          simpa using hc
        · rw [Plain.dropWhile_append_ne _ _ h2] at hc
          simpa using hc
  show Lib.trimLeftS (Lib.trimRightS l cs) cs = _
  rw [key]
  rfl

def strings_Trim.f (a0 : ByteArray) (a1 : ByteArray) : Option (ByteArray) := if a0.size ≤ Big ∧ a1.size < 4294967281 ∧ a1.data.toList.all (fun b => decide (b.toNat < 128)) = true then some (txt (Plain.trimP (a1.data.toList.contains ·) a0.data.toList)) else none
theorem strings_Trim.calls (a0 : ByteArray) (a1 : ByteArray) (r : ByteArray) (w : World) (h : strings_Trim.f a0 a1 = some r) :
    Calls Tryd.prog 55 #[.string a0, .string a1] w fun e w' => e = .returned (.string r) ∧ Below w.heap.size w w' := by
  unfold strings_Trim.f at h
  split at h
  · rename_i hs
    obtain rfl := Option.some.inj h
    rw [← trims_comm]
    exact Any.strings_Trim_laid Tryd.lays160 (by kernel_rfl) a0 a1 w hs.1 hs.2.1 (fun j b hb => asc_of_all hs.2.2 b (List.mem_of_getElem? hb))
  · cases h
theorem trim_blanks (s : ByteArray) (hs : s.size ≤ Big) : strings_Trim.f s ⟨#[9, 10, 13, 32]⟩ = some (txt (Plain.trimB s.data.toList)) := by
  unfold strings_Trim.f
  rw [if_pos ⟨hs, by decide, by decide⟩]
  unfold Plain.trimB
  congr 3
  funext c
  have := Plain.all_bytes (p := fun c => [9, 10, 13, 32].contains c == Plain.isBlank c) (by decide +kernel) c
  simpa using this
theorem trim_tabs (s : ByteArray) (hs : s.size ≤ Big) : strings_Trim.f s ⟨#[9, 32]⟩ = some (txt (Plain.trimP Plain.isTab s.data.toList)) := by
  unfold strings_Trim.f
  rw [if_pos ⟨hs, by decide, by decide⟩]
  congr 3
  funext c
  have := Plain.all_bytes (p := fun c => [9, 32].contains c == Plain.isTab c) (by decide +kernel) c
  simpa using this

def token_Lower.f (a0 : ByteArray) : Option (ByteArray) := if a0.size ≤ Big then some (txt (Plain.lower a0.data.toList)) else none
theorem token_Lower.calls (a0 : ByteArray) (r : ByteArray) (w : World) (h : token_Lower.f a0 = some r) :
    Calls Tryd.prog 10 #[.string a0] w fun e w' => e = .returned (.string r) ∧ Below w.heap.size w w' := by
  unfold token_Lower.f at h
  split at h
  · rename_i hs
    obtain rfl := Option.some.inj h
    exact lower_any a0 w hs
  · cases h
def token_upper.f (a0 : ByteArray) : Option (ByteArray) := if a0.size ≤ Big then some (txt (Plain.upper a0.data.toList)) else none
theorem token_upper.calls (a0 : ByteArray) (r : ByteArray) (w : World) (h : token_upper.f a0 = some r) :
    Calls Tryd.prog 27 #[.string a0] w fun e w' => e = .returned (.string r) ∧ Below w.heap.size w w' := by
  unfold token_upper.f at h
  split at h
  · rename_i hs
    obtain rfl := Option.some.inj h
    exact upper_any a0 w hs
  · cases h
end Go.Proofs.YtikhboebmmmopaaDoor.Ext
