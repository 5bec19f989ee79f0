/-
  PLAIN LAWS, with no program in sight: rows of names, each once, in order (nm); what of some headers needs leave (uns), told by any test. No conditions.
-/
import Derived.Test.YtikhboebmmmopaaDoorPlain
import Derived.Sort.KeysCollected
namespace Go.Proofs.YtikhboebmmmopaaDoor.Plain
open Go (leB)

theorem lt_of_le_ne {x y : List UInt8} (h : x ≤ y) (hne : x ≠ y) : x < y := by
  rcases Classical.em (x < y) with h1 | h1
  · exact h1
  · exact absurd (List.le_antisymm h (List.not_lt.1 h1)) hne
theorem lt_asymm' {x y : List UInt8} (h : x < y) (h2 : y < x) : False := (List.not_lt.2 (List.le_of_lt h)) h2

def dd : List (List UInt8) → List (List UInt8)
  | [] => []
  | x :: r => if x ∈ r then dd r else x :: dd r
theorem mem_dd (y : List UInt8) : ∀ l, y ∈ dd l ↔ y ∈ l
  | [] => Iff.rfl
  | x :: r => by
    have ih := mem_dd y r
    unfold dd
    split
    · rename_i h
      rw [ih, List.mem_cons]
      constructor
      · exact .inr
      · rintro (rfl | h1)
        · exact h
        · exact h1
    · rw [List.mem_cons, List.mem_cons, ih]
theorem nodup_dd : ∀ l, (dd l).Nodup
  | [] => List.nodup_nil
  | x :: r => by
    unfold dd
    split
    · exact nodup_dd r
    · rename_i h
      rw [List.nodup_cons, mem_dd]
      exact ⟨h, nodup_dd r⟩
theorem dd_length : ∀ l, (dd l).length ≤ l.length
  | [] => Nat.le_refl _
  | x :: r => by
    have ih := dd_length r
    unfold dd
    split
    · rw [List.length_cons]; omega
    · rw [List.length_cons, List.length_cons]; omega

/-- names, each once, in order -/
def nm (l : List (List UInt8)) : List (List UInt8) := (dd l).mergeSort leB
theorem mem_nm (x : List UInt8) (l : List (List UInt8)) : x ∈ nm l ↔ x ∈ l := by
  unfold nm
  rw [(List.mergeSort_perm (dd l) leB).mem_iff, mem_dd]
theorem nm_length (l : List (List UInt8)) : (nm l).length ≤ l.length := by
  unfold nm
  rw [List.length_mergeSort]
  exact dd_length l
theorem nm_of_perm {ss l : List (List UInt8)} (hn : ss.Nodup) (h : ∀ x, x ∈ ss ↔ x ∈ l) : ss.mergeSort leB = nm l :=
  mergeSort_of_perm ((List.perm_ext_iff_of_nodup hn (nodup_dd l)).2 fun x => by rw [h x, mem_dd])
theorem nm_congr {a b : List (List UInt8)} (h : ∀ x, x ∈ a ↔ x ∈ b) : nm a = nm b :=
  nm_of_perm (nodup_dd a) fun x => by rw [mem_dd, h x]
theorem nm_sorted (l : List (List UInt8)) : (nm l).Pairwise (fun x y => x < y) := by
  have tr : ∀ a b c : List UInt8, leB a b = true → leB b c = true → leB a c = true := fun a b c h1 h2 => by simp only [leB, decide_eq_true_eq] at *; exact List.le_trans h1 h2
  have to : ∀ a b : List UInt8, (leB a b || leB b a) = true := fun a b => by simp only [leB, Bool.or_eq_true, decide_eq_true_eq]; exact List.le_total a b
  have h1 := List.pairwise_mergeSort tr to (dd l)
  have h2 : (nm l).Nodup := (List.mergeSort_perm (dd l) leB).nodup_iff.2 (nodup_dd l)
  exact (h1.and h2).imp fun {x y} h => lt_of_le_ne (of_decide_eq_true h.1) h.2
theorem strict_ext {a b : List (List UInt8)} (ha : a.Pairwise (fun x y => x < y)) (hb : b.Pairwise (fun x y => x < y)) (h : ∀ x, x ∈ a ↔ x ∈ b) : a = b := by
  have na : a.Nodup := ha.imp fun {x y} hxy e => by subst e; exact lt_asymm' hxy hxy
  have nb : b.Nodup := hb.imp fun {x y} hxy e => by subst e; exact lt_asymm' hxy hxy
  exact List.Perm.eq_of_pairwise (le := fun x y => x < y) (fun x y _ _ h1 h2 => absurd h2 fun h2 => lt_asymm' h1 h2) ha hb ((List.perm_ext_iff_of_nodup na nb).2 h)
theorem nm_at (l : List (List UInt8)) (i j : Nat) (hij : i < j) (hj : j < (nm l).length) : (nm l)[i]'(by omega) < (nm l)[j] :=
  List.pairwise_iff_getElem.1 (nm_sorted l) i j (by omega) hj hij
theorem nm_nil : nm [] = [] := by simp [nm, dd]
theorem nm_one (x : List UInt8) : nm [x] = [x] := by
  have h1 : dd [x] = [x] := by simp [dd]
  unfold nm
  rw [h1]
  exact List.mergeSort_singleton x

/-! ### a row that rises, with one more -/
def ins (s : List UInt8) : List (List UInt8) → List (List UInt8)
  | [] => [s]
  | x :: r => if x < s then x :: ins s r else if x = s then x :: r else s :: x :: r
theorem mem_ins (s y : List UInt8) : ∀ l, y ∈ ins s l ↔ y = s ∨ y ∈ l
  | [] => by simp [ins]
  | x :: r => by
    have ih := mem_ins s y r
    unfold ins
    split
    · rw [List.mem_cons, ih, List.mem_cons]
      constructor
      · rintro (h | h | h)
        · exact .inr (.inl h)
        · exact .inl h
        · exact .inr (.inr h)
      · rintro (h | h | h)
        · exact .inr (.inl h)
        · exact .inl h
        · exact .inr (.inr h)
    · split
      · rename_i h
        subst h
        rw [List.mem_cons]
        constructor
        · exact .inr
        · rintro (h | h)
          · exact .inl h
          · exact h
      · rw [List.mem_cons]
theorem ins_sorted (s : List UInt8) : ∀ l, l.Pairwise (fun x y => x < y) → (ins s l).Pairwise (fun x y => x < y)
  | [], _ => List.pairwise_singleton _ _
  | x :: r, h => by
    obtain ⟨h1, h2⟩ := List.pairwise_cons.1 h
    unfold ins
    split
    · rename_i hx
      refine List.pairwise_cons.2 ⟨fun y hy => ?_, ins_sorted s r h2⟩
      rcases (mem_ins s y r).1 hy with rfl | hy
      · exact hx
      · exact h1 y hy
    · split
      · exact h
      · rename_i hx hne
        have hsx : s < x := lt_of_le_ne (List.not_lt.1 hx) (fun e => hne e.symm)
        refine List.pairwise_cons.2 ⟨fun y hy => ?_, h⟩
        rcases List.mem_cons.1 hy with rfl | hy
        · exact hsx
        · exact List.lt_trans hsx (h1 y hy)
theorem ins_length (s : List UInt8) : ∀ l, (ins s l).length ≤ l.length + 1
  | [] => Nat.le_refl _
  | x :: r => by
    have ih := ins_length s r
    unfold ins
    split
    · simp only [List.length_cons]; omega
    · split <;> simp only [List.length_cons] <;> omega

/-! ### what needs leave -/
section
variable {α : Type} (h : α → Bool) (len : α → Nat) (name : α → List UInt8)
def good (l : List α) : Nat := ((l.filter h).map len).sum
def badly (l : List α) : List α := if 1024 < good h len l then l.filter (fun f => !h f) ++ l.filter h else l.filter (fun f => !h f)
def uns (l : List α) : List (List UInt8) := nm ((badly h len l).map name)
theorem mem_uns (x : List UInt8) (l : List α) : x ∈ uns h len name l ↔ ∃ f, f ∈ l ∧ name f = x ∧ (h f = false ∨ 1024 < good h len l) := by
  unfold uns badly
  rw [mem_nm]
  split
  · rename_i hg
    rw [List.mem_map]
    constructor
    · rintro ⟨f, hf, rfl⟩
      refine ⟨f, ?_, rfl, .inr hg⟩
      rcases List.mem_append.1 hf with hf | hf <;> exact (List.mem_filter.1 hf).1
    · rintro ⟨f, hf, rfl, _⟩
      refine ⟨f, List.mem_append.2 ?_, rfl⟩
      cases hh : h f
      · exact .inl (List.mem_filter.2 ⟨hf, by simp [hh]⟩)
      · exact .inr (List.mem_filter.2 ⟨hf, hh⟩)
  · rename_i hg
    rw [List.mem_map]
    constructor
    · rintro ⟨f, hf, rfl⟩
      obtain ⟨h1, h2⟩ := List.mem_filter.1 hf
      exact ⟨f, h1, rfl, .inl (by simpa using h2)⟩
    · rintro ⟨f, hf, rfl, hh⟩
      rcases hh with hh | hh
      · exact ⟨f, List.mem_filter.2 ⟨hf, by simp [hh]⟩, rfl⟩
      · exact absurd hh hg
theorem uns_sorted (l : List α) : (uns h len name l).Pairwise (fun x y => x < y) := nm_sorted _
theorem badly_length (l : List α) : (badly h len l).length ≤ l.length := by
  have h1 : (l.filter (fun f => !h f)).length + (l.filter h).length = l.length := by
    induction l with
    | nil => rfl
    | cons x r ih => cases hx : h x <;> simp [List.filter_cons, hx] <;> omega
  unfold badly
  split
  · rw [List.length_append]; omega
  · omega
theorem uns_length (l : List α) : (uns h len name l).length ≤ l.length := by
  refine Nat.le_trans (nm_length _) ?_
  rw [List.length_map]
  exact badly_length h len l
theorem uns_ext {l m : List α} (hm : ∀ f, f ∈ l ↔ f ∈ m) (hg : (1024 < good h len l) ↔ (1024 < good h len m)) : uns h len name l = uns h len name m :=
  strict_ext (uns_sorted h len name l) (uns_sorted h len name m) fun x => by
    rw [mem_uns, mem_uns]
    constructor
    · rintro ⟨f, h1, h2, h3⟩; exact ⟨f, (hm f).1 h1, h2, h3.imp id hg.1⟩
    · rintro ⟨f, h1, h2, h3⟩; exact ⟨f, (hm f).2 h1, h2, h3.imp id hg.2⟩
theorem good_append (l m : List α) : good h len (l ++ m) = good h len l + good h len m := by
  unfold good
  rw [List.filter_append, List.map_append, List.sum_append]
theorem good_one (f : α) : good h len [f] = if h f = true then len f else 0 := by
  unfold good
  cases hf : h f <;> simp [hf]
theorem good_cons (f : α) (l : List α) : good h len (f :: l) = (if h f = true then len f else 0) + good h len l := by
  rw [← List.singleton_append, good_append, good_one]
theorem good_reverse (l : List α) : good h len l.reverse = good h len l := by
  unfold good
  rw [List.filter_reverse, List.map_reverse, List.sum_reverse]
theorem good_le (l : List α) : good h len l ≤ (l.map len).sum := by
  induction l with
  | nil => exact Nat.le_refl _
  | cons f l ih =>
    rw [good_cons, List.map_cons, List.sum_cons]
    split <;> omega
theorem uns_reverse (l : List α) : uns h len name l.reverse = uns h len name l :=
  uns_ext h len name (fun f => List.mem_reverse) (by rw [good_reverse])
theorem uns_more (l : List α) (f : α) (x : List UInt8) (hx : x ∈ uns h len name l) : x ∈ uns h len name (l ++ [f]) := by
  rw [mem_uns] at hx ⊢
  obtain ⟨g, h1, h2, h3⟩ := hx
  refine ⟨g, List.mem_append.2 (.inl h1), h2, h3.imp id fun hg => ?_⟩
  rw [good_append]
  omega
theorem uns_new (l : List α) (f : α) (hf : h f = false) : name f ∈ uns h len name (l ++ [f]) := by
  rw [mem_uns]
  exact ⟨f, List.mem_append.2 (.inr (List.mem_singleton.2 rfl)), rfl, .inl hf⟩
theorem uns_same (l : List α) (f : α) (hf : h f = true) (hs : (l.map len).sum + len f ≤ 1024) : uns h len name (l ++ [f]) = uns h len name l := by
  have h1 := good_le h len l
  have h2 : good h len (l ++ [f]) = good h len l + len f := by rw [good_append, good_one, if_pos hf]
  refine strict_ext (uns_sorted h len name _) (uns_sorted h len name _) fun x => ?_
  rw [mem_uns, mem_uns]
  constructor
  · rintro ⟨g, a1, a2, a3⟩
    rcases a3 with a3 | a3
    · rcases List.mem_append.1 a1 with a1 | a1
      · exact ⟨g, a1, a2, .inl a3⟩
      · rw [List.mem_singleton.1 a1, hf] at a3
        cases a3
    · omega
  · rintro ⟨g, a1, a2, a3⟩
    rcases a3 with a3 | a3
    · exact ⟨g, List.mem_append.2 (.inl a1), a2, .inl a3⟩
    · omega
theorem uns_one_ok (f : α) (hf : h f = true) (hl : len f ≤ 1024) : uns h len name [f] = [] := by
  unfold uns badly
  rw [good_one, if_pos hf, if_neg (by omega)]
  simp [hf, nm_nil]
theorem uns_one_bad (f : α) (hf : h f = false) : uns h len name [f] = [name f] := by
  unfold uns badly
  have h0 : good h len [f] = 0 := by rw [good_one, hf]; rfl
  rw [h0, if_neg (by omega)]
  simp [hf, nm_one]
theorem uns_nil : uns h len name [] = [] := by
  unfold uns badly good
  simp [nm_nil]
theorem uns_all {l : List α} (hl : ∀ f, f ∈ l → h f = true) (hne : l ≠ []) : (uns h len name l = []) ↔ good h len l ≤ 1024 := by
  constructor
  · intro e
    rcases Nat.lt_or_ge 1024 (good h len l) with h1 | h1
    · obtain ⟨f, hf⟩ := List.exists_mem_of_ne_nil l hne
      have : name f ∈ uns h len name l := by
        rw [mem_uns]
        exact ⟨f, hf, rfl, .inr h1⟩
      rw [e] at this
      cases this
    · exact h1
  · intro hg
    refine List.eq_nil_iff_forall_not_mem.2 fun x hx => ?_
    obtain ⟨f, h1, _, h3⟩ := (mem_uns h len name x l).1 hx
    rcases h3 with h3 | h3
    · rw [hl f h1] at h3
      cases h3
    · omega
end
end Go.Proofs.YtikhboebmmmopaaDoor.Plain
