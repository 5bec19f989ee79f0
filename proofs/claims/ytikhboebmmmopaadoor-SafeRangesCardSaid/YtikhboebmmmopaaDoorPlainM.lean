/-
  PLAIN LAWS ON LISTS OF BYTES (no program in sight): what layer 11 (mime) says: an essence, and what follows. Conditions: none.
-/
import Derived.Test.YtikhboebmmmopaaDoorPlain
namespace Go.Proofs.YtikhboebmmmopaaDoor.Plain

def upTo (c : UInt8) (l : List UInt8) : List UInt8 := l.takeWhile (· != c)
def past (c : UInt8) (l : List UInt8) : List UInt8 := (l.dropWhile (· != c)).drop 1
theorem upTo_none (c : UInt8) : ∀ (l : List UInt8), c ∉ l → upTo c l = l
  | [], _ => rfl
  | a :: r, h => by
    have h1 : (a != c) = true := by simp only [bne_iff_ne, ne_eq]; intro e; exact h (by rw [e]; exact List.mem_cons_self ..)
    have h2 := upTo_none c r (fun hc => h (List.mem_cons_of_mem _ hc))
    unfold upTo at h2 ⊢
    rw [List.takeWhile_cons, if_pos h1, h2]
theorem upTo_at (c : UInt8) (r : List UInt8) : ∀ (l : List UInt8), c ∉ l → upTo c (l ++ c :: r) = l
  | [], _ => by simp [upTo]
  | a :: t, h => by
    have h1 : (a != c) = true := by simp only [bne_iff_ne, ne_eq]; intro e; exact h (by rw [e]; exact List.mem_cons_self ..)
    have h2 := upTo_at c r t (fun hc => h (List.mem_cons_of_mem _ hc))
    unfold upTo at h2 ⊢
    rw [List.cons_append, List.takeWhile_cons, if_pos h1, h2]
theorem past_at (c : UInt8) (r : List UInt8) : ∀ (l : List UInt8), c ∉ l → past c (l ++ c :: r) = r
  | [], _ => by simp [past]
  | a :: t, h => by
    have h1 : (a != c) = true := by simp only [bne_iff_ne, ne_eq]; intro e; exact h (by rw [e]; exact List.mem_cons_self ..)
    have h2 := past_at c r t (fun hc => h (List.mem_cons_of_mem _ hc))
    unfold past at h2 ⊢
    rw [List.cons_append, List.dropWhile_cons, if_pos h1, h2]
theorem past_none (c : UInt8) : ∀ (l : List UInt8), c ∉ l → past c l = []
  | [], _ => rfl
  | a :: r, h => by
    have h1 : (a != c) = true := by simp only [bne_iff_ne, ne_eq]; intro e; exact h (by rw [e]; exact List.mem_cons_self ..)
    have h2 := past_none c r (fun hc => h (List.mem_cons_of_mem _ hc))
    unfold past at h2 ⊢
    rw [List.dropWhile_cons, if_pos h1, h2]
theorem split_at (c : UInt8) : ∀ (l : List UInt8), c ∈ l → l = upTo c l ++ c :: past c l ∧ c ∉ upTo c l
  | [], h => by cases h
  | a :: r, h => by
    by_cases e : a = c
    · subst e
      simp [upTo, past]
    · have h1 : (a != c) = true := by simpa using e
      obtain ⟨h2, h3⟩ := split_at c r (by rcases List.mem_cons.1 h with h | h; exact absurd h.symm e; exact h)
      have e1 : upTo c (a :: r) = a :: upTo c r := by unfold upTo; rw [List.takeWhile_cons, if_pos h1]
      have e2 : past c (a :: r) = past c r := by unfold past; rw [List.dropWhile_cons, if_pos h1]
      rw [e1, e2]
      refine ⟨by rw [List.cons_append, ← h2], ?_⟩
      intro hc
      rcases List.mem_cons.1 hc with hc | hc
      · exact e hc.symm
      · exact h3 hc

def essence (l : List UInt8) : Option (List UInt8) :=
  if (trimB (upTo 59 l)).contains 47 = true ∧ nameB (upTo 47 (trimB (upTo 59 l))) = true ∧ nameB (past 47 (trimB (upTo 59 l))) = true then
    some (lower (upTo 47 (trimB (upTo 59 l)) ++ 47 :: past 47 (trimB (upTo 59 l)))) else none

theorem name_mem {l : List UInt8} (h : nameB l = true) (c : UInt8) (hc : c ∈ l) : isTok c = true := by
  simp only [nameB, Bool.and_eq_true, List.all_eq_true] at h
  exact h.2 c hc
theorem name_no {l : List UInt8} (h : nameB l = true) : (47 : UInt8) ∉ l ∧ (59 : UInt8) ∉ l := by
  refine ⟨fun hc => ?_, fun hc => ?_⟩
  · have := name_mem h _ hc
    revert this; decide +kernel
  · have := name_mem h _ hc
    revert this; decide +kernel
theorem name_ne {l : List UInt8} (h : nameB l = true) : l ≠ [] := by
  rintro rfl
  cases h
theorem two_ends {a b : List UInt8} (m : List UInt8) (ha : nameB a = true) (hb : nameB b = true) : trimB (a ++ m ++ b) = a ++ m ++ b := by
  refine trimP_id ⟨fun c hc => tok_not_blank c ?_, fun c hc => tok_not_blank c ?_⟩
  · cases a with
    | nil => exact absurd rfl (name_ne ha)
    | cons x r =>
      simp only [List.cons_append, List.head?_cons, Option.some.injEq] at hc
      subst hc
      exact name_mem ha _ (List.mem_cons_self ..)
  · have hne := name_ne hb
    rw [List.reverse_append] at hc
    cases hr : b.reverse with
    | nil => exact absurd (List.reverse_eq_nil_iff.1 hr) hne
    | cons x r =>
      rw [hr] at hc
      simp only [List.cons_append, List.head?_cons, Option.some.injEq] at hc
      subst hc
      refine name_mem hb _ ?_
      rw [← List.mem_reverse, hr]
      exact List.mem_cons_self ..
theorem essence_at {l a b : List UInt8} (h : trimB (upTo 59 l) = a ++ 47 :: b) (ha : (47 : UInt8) ∉ a) :
    essence l = if nameB a = true ∧ nameB b = true then some (lower (a ++ 47 :: b)) else none := by
  unfold essence
  rw [h, upTo_at 47 b a ha, past_at 47 b a ha]
  have : (a ++ 47 :: b).contains 47 = true := by simp
  rw [this]
  by_cases h1 : nameB a = true ∧ nameB b = true
  · rw [if_pos h1, if_pos ⟨rfl, h1⟩]
  · rw [if_neg h1, if_neg (fun h => h1 h.2)]
theorem essence_none {l : List UInt8} (h : (47 : UInt8) ∉ trimB (upTo 59 l)) : essence l = none := by
  unfold essence
  rw [if_neg]
  rintro ⟨h1, _⟩
  rw [List.contains_iff_mem] at h1
  exact h h1
theorem essence_some {l e : List UInt8} (h : essence l = some e) : ∃ a b, nameB a = true ∧ nameB b = true ∧ e = a ++ 47 :: b ∧ lower e = e := by
  unfold essence at h
  split at h
  · rename_i hc
    obtain ⟨h1, h2, h3⟩ := hc
    cases h
    refine ⟨lower (upTo 47 (trimB (upTo 59 l))), lower (past 47 (trimB (upTo 59 l))), by rw [name_lower]; exact h2, by rw [name_lower]; exact h3, ?_, lower_lower _⟩
    unfold lower
    rw [List.map_append, List.map_cons]
    rfl
  · cases h
theorem upTo_names {a b : List UInt8} (ha : nameB a = true) (hb : nameB b = true) (m : List UInt8) (hm : (59 : UInt8) ∉ m) : (59 : UInt8) ∉ a ++ m ++ b := by
  intro h
  rcases List.mem_append.1 h with h | h
  · rcases List.mem_append.1 h with h | h
    · exact (name_no ha).2 h
    · exact hm h
  · exact (name_no hb).2 h

/-! ### MimeNames -/
theorem names_one {a b : List UInt8} (ha : nameB a = true) (hb : nameB b = true) (more : List UInt8) :
    essence (a ++ [47] ++ b ++ [59] ++ more) = some (lower a ++ [47] ++ lower b) := by
  have h1 : upTo 59 (a ++ [47] ++ b ++ [59] ++ more) = a ++ [47] ++ b := by
    rw [show a ++ [47] ++ b ++ [59] ++ more = (a ++ [47] ++ b) ++ 59 :: more by simp]
    exact upTo_at 59 more _ (upTo_names ha hb _ (by decide))
  rw [essence_at (a := a) (b := b) (by rw [h1, two_ends _ ha hb]; simp) (name_no ha).1, if_pos ⟨ha, hb⟩]
  unfold lower
  rw [List.map_append, List.map_cons]
  simp [show lowC 47 = 47 from by decide]
theorem names_ahead {a b : List UInt8} (ha : nameB a = true) (hb : nameB b = true) : essence (a ++ [32, 47] ++ b) = none := by
  have h1 : upTo 59 (a ++ [32, 47] ++ b) = a ++ [32, 47] ++ b := upTo_none 59 _ (upTo_names ha hb _ (by decide))
  rw [essence_at (a := a ++ [32]) (b := b) (by rw [h1, two_ends _ ha hb]; simp) (by
    intro h
    rcases List.mem_append.1 h with h | h
    · exact (name_no ha).1 h
    · revert h; decide), if_neg]
  rintro ⟨h, _⟩
  have := name_mem h 32 (by simp)
  revert this; decide +kernel
theorem names_behind {a b : List UInt8} (ha : nameB a = true) (hb : nameB b = true) : essence (a ++ [47, 32] ++ b) = none := by
  have h1 : upTo 59 (a ++ [47, 32] ++ b) = a ++ [47, 32] ++ b := upTo_none 59 _ (upTo_names ha hb _ (by decide))
  rw [essence_at (a := a) (b := 32 :: b) (by rw [h1, two_ends _ ha hb]; simp) (name_no ha).1, if_neg]
  rintro ⟨_, h⟩
  have := name_mem h 32 (by simp)
  revert this; decide +kernel
theorem names_again {a b : List UInt8} (ha : nameB a = true) (hb : nameB b = true) : essence (a ++ [47] ++ b ++ [47] ++ b) = none := by
  have e : a ++ [47] ++ b ++ [47] ++ b = a ++ ([47] ++ b ++ [47]) ++ b := by simp
  have h1 : upTo 59 (a ++ [47] ++ b ++ [47] ++ b) = a ++ [47] ++ b ++ [47] ++ b := by
    rw [e]
    refine upTo_none 59 _ (upTo_names ha hb _ ?_)
    intro h
    simp only [List.mem_append, List.mem_singleton] at h
    rcases h with (h | h) | h
    · revert h; decide
    · exact (name_no hb).2 h
    · revert h; decide
  rw [essence_at (a := a) (b := b ++ [47] ++ b) (by rw [h1, e, two_ends _ ha hb]; simp) (name_no ha).1, if_neg]
  rintro ⟨_, h⟩
  have := name_mem h 47 (by simp)
  revert this; decide +kernel
theorem names_none {a b : List UInt8} (ha : nameB a = true) (hb : nameB b = true) : essence (a ++ b) = none := by
  have e : a ++ b = a ++ [] ++ b := by simp
  have h1 : upTo 59 (a ++ b) = a ++ b := by
    rw [e]
    exact upTo_none 59 _ (upTo_names ha hb _ (by simp))
  refine essence_none ?_
  rw [h1, e, two_ends _ ha hb]
  simp only [List.append_nil, List.mem_append, not_or]
  exact ⟨(name_no ha).1, (name_no hb).1⟩

/-! ### MimeOwn -/
theorem own_one {s e : List UInt8} (h : essence s = some e) : essence e = some e := by
  obtain ⟨a, b, ha, hb, rfl, hl⟩ := essence_some h
  have e : a ++ 47 :: b = a ++ [47] ++ b := by simp
  have h1 : upTo 59 (a ++ 47 :: b) = a ++ 47 :: b := by
    rw [e]
    exact upTo_none 59 _ (upTo_names ha hb _ (by decide))
  rw [essence_at (a := a) (b := b) (by rw [h1, e, two_ends _ ha hb]) (name_no ha).1, if_pos ⟨ha, hb⟩, hl]
theorem own_two {s e : List UInt8} (h : essence s = some e) (more : List UInt8) : essence ([32, 9] ++ e ++ [32, 59] ++ more) = some e := by
  obtain ⟨a, b, ha, hb, rfl, hl⟩ := essence_some h
  have e : a ++ 47 :: b = a ++ [47] ++ b := by simp
  have hn : (59 : UInt8) ∉ a ++ 47 :: b := by
    rw [e]
    exact upTo_names ha hb _ (by decide)
  have h1 : upTo 59 ([32, 9] ++ (a ++ 47 :: b) ++ [32, 59] ++ more) = [32, 9] ++ (a ++ 47 :: b) ++ [32] := by
    rw [show [32, 9] ++ (a ++ 47 :: b) ++ [32, 59] ++ more = ([32, 9] ++ (a ++ 47 :: b) ++ [32]) ++ 59 :: more by simp]
    refine upTo_at 59 more _ ?_
    intro h
    rcases List.mem_append.1 h with h | h
    · rcases List.mem_append.1 h with h | h
      · revert h; decide
      · exact hn h
    · revert h; decide
  have h2 : trimB ([32, 9] ++ (a ++ 47 :: b) ++ [32]) = a ++ 47 :: b := by
    unfold trimB
    rw [trimP_right _ _ (by decide), trimP_left _ _ (by decide)]
    have := two_ends [47] ha hb
    unfold trimB at this
    rw [e]
    exact this
  rw [essence_at (a := a) (b := b) (by rw [h1, h2]) (name_no ha).1, if_pos ⟨ha, hb⟩, hl]
theorem essence_ne {s e : List UInt8} (h : essence s = some e) : e ≠ [] := by
  obtain ⟨a, b, _, _, rfl, _⟩ := essence_some h
  simp
theorem essence_length {s e : List UInt8} (h : essence s = some e) : e.length ≤ s.length := by
  have hu : ∀ (c : UInt8) (l : List UInt8), (upTo c l).length ≤ l.length := by
    intro c l
    unfold upTo
    exact (List.takeWhile_prefix _).length_le
  unfold essence at h
  split at h
  · rename_i hc
    cases h
    rw [lower_length, ← (split_at 47 _ (by simpa using hc.1)).1]
    exact Nat.le_trans (trimP_length _ _) (hu _ _)
  · cases h

/-! ### which one counts -/
def counts (p : List UInt8) : Option (List UInt8) := match essence p with
  | some e => if e = [42, 47, 42] then none else some e
  | none => none
def lastOf (l : List (List UInt8)) : Option (List UInt8) := l.reverse.findSome? counts
theorem lastOf_snoc (l : List (List UInt8)) (p : List UInt8) : lastOf (l ++ [p]) = match counts p with | some e => some e | none => lastOf l := by
  unfold lastOf
  rw [List.reverse_append, List.reverse_singleton, List.singleton_append, List.findSome?_cons]
  cases counts p <;> rfl
theorem partsGo_mem (l : List UInt8) : ∀ (st : Nat) (cur p : List UInt8), p ∈ partsGo st cur l → p.length ≤ cur.length + l.length := by
  induction l with
  | nil =>
    intro st cur p hp
    have : p = trimP isTab cur.reverse := by simpa [partsGo] using hp
    rw [this]
    have := trimP_length isTab cur.reverse
    rw [List.length_reverse] at this
    simpa using this
  | cons c r ih =>
    intro st cur p hp
    rw [partsGo] at hp
    split at hp
    · rcases List.mem_cons.1 hp with rfl | hp
      · have := trimP_length isTab cur.reverse
        rw [List.length_reverse] at this
        rw [List.length_cons]
        omega
      · have := ih 0 [] p hp
        simp only [List.length_nil, List.length_cons] at this ⊢
        omega
    · have := ih _ _ p hp
      simp only [List.length_cons] at this ⊢
      omega
theorem parts_mem_le {l p : List UInt8} (h : p ∈ parts l) : p.length ≤ l.length := by
  have := partsGo_mem l 0 [] p h
  simpa using this
end Go.Proofs.YtikhboebmmmopaaDoor.Plain
