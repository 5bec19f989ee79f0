/-
  PLAIN LAWS ON LISTS OF BYTES (no program in sight): what layer 11 (mime) says: an essence, and what follows. Conditions: none.
  PLAIN LAWS, with no program in sight: rows of names, each once, in order (nm); what of some headers needs leave (uns), told by any test. No conditions.
-/
import Derived.Sort.KeysCollected
/-
  PLAIN LAWS ON LISTS OF BYTES (no program in sight): what layer 9 (token) says, and what follows: names, values, trimming, letters, methods, parts. Conditions: none.
-/
namespace Go.Proofs.YtikhboebmmmopaaGreatDoor.Plain

/-! ### 1. Bytes -/
def isBlank (c : UInt8) : Bool := c == 9 || c == 10 || c == 13 || c == 32
def isTab (c : UInt8) : Bool := c == 9 || c == 32
def isAlnum (c : UInt8) : Bool := (48 ≤ c && c ≤ 57) || (65 ≤ c && c ≤ 90) || (97 ≤ c && c ≤ 122)
def marks : List UInt8 := [33, 35, 36, 37, 38, 39, 42, 43, 45, 46, 94, 95, 96, 124, 126]
def isTok (c : UInt8) : Bool := isAlnum c || marks.contains c
def lowC (c : UInt8) : UInt8 := if 65 ≤ c && c ≤ 90 then c + 32 else c
def upC (c : UInt8) : UInt8 := if 97 ≤ c && c ≤ 122 then c - 32 else c
def isBad (c : UInt8) : Bool := c == 0 || c == 10 || c == 13

theorem all_bytes {p : UInt8 → Bool} (h : (List.range 256).all (fun n => p (UInt8.ofNat n)) = true) (c : UInt8) : p c = true := by
  have h1 := List.all_eq_true.1 h c.toNat (List.mem_range.2 (UInt8.toNat_lt c))
  rwa [UInt8.ofNat_toNat] at h1

theorem lowC_lowC (c : UInt8) : lowC (lowC c) = lowC c := by
  have := all_bytes (p := fun c => lowC (lowC c) == lowC c) (by decide +kernel) c
  simpa using this
theorem lowC_upC (c : UInt8) : lowC (upC c) = lowC c := by
  have := all_bytes (p := fun c => lowC (upC c) == lowC c) (by decide +kernel) c
  simpa using this
theorem upC_lowC (c : UInt8) : upC (lowC c) = upC c := by
  have := all_bytes (p := fun c => upC (lowC c) == upC c) (by decide +kernel) c
  simpa using this
theorem upC_upC (c : UInt8) : upC (upC c) = upC c := by
  have := all_bytes (p := fun c => upC (upC c) == upC c) (by decide +kernel) c
  simpa using this
theorem isTok_lowC (c : UInt8) : isTok (lowC c) = isTok c := by
  have := all_bytes (p := fun c => isTok (lowC c) == isTok c) (by decide +kernel) c
  simpa using this
theorem tok_not_blank (c : UInt8) (h : isTok c = true) : isBlank c = false := by
  have := all_bytes (p := fun c => !isTok c || !isBlank c) (by decide +kernel) c
  simpa [h] using this
theorem tok_not_bad (c : UInt8) (h : isTok c = true) : isBad c = false := by
  have := all_bytes (p := fun c => !isTok c || !isBad c) (by decide +kernel) c
  simpa [h] using this
theorem tok_not_tab (c : UInt8) (h : isTok c = true) : isTab c = false := by
  have := all_bytes (p := fun c => !isTok c || !isTab c) (by decide +kernel) c
  simpa [h] using this
theorem tok_not_sep (c : UInt8) (h : isTok c = true) : (c == 44) = false ∧ (c == 34) = false ∧ (c == 47) = false ∧ (c == 59) = false := by
  have := all_bytes (p := fun c => !isTok c || (!(c == 44) && !(c == 34) && !(c == 47) && !(c == 59))) (by decide +kernel) c
  simp only [h, Bool.not_true, Bool.false_or, Bool.and_eq_true, Bool.not_eq_true'] at this
  exact ⟨this.1.1.1, this.1.1.2, this.1.2, this.2⟩

/-! ### 2. Trimming -/
def trimP (p : UInt8 → Bool) (l : List UInt8) : List UInt8 := ((l.dropWhile p).reverse.dropWhile p).reverse

theorem dropWhile_id {p : UInt8 → Bool} : ∀ {l : List UInt8}, (∀ c, l.head? = some c → p c = false) → l.dropWhile p = l
  | [], _ => rfl
  | a :: r, h => by simp [List.dropWhile, h a rfl]
theorem dropWhile_head {p : UInt8 → Bool} : ∀ (l : List UInt8) c, (l.dropWhile p).head? = some c → p c = false
  | [], c, h => by simp at h
  | a :: r, c, h => by
    rw [List.dropWhile_cons] at h
    split at h
    · exact dropWhile_head r c h
    · rename_i hn
      simp only [List.head?_cons, Option.some.injEq] at h
      subst h
      simpa using hn
theorem dropWhile_append_all {p : UInt8 → Bool} : ∀ (a l : List UInt8), (∀ c ∈ a, p c = true) → (a ++ l).dropWhile p = l.dropWhile p
  | [], _, _ => rfl
  | c :: r, l, h => by
    rw [List.cons_append, List.dropWhile_cons, if_pos (h c (by simp))]
    exact dropWhile_append_all r l (fun d hd => h d (by simp [hd]))
theorem dropWhile_append_ne {p : UInt8 → Bool} : ∀ (l b : List UInt8), l.dropWhile p ≠ [] → (l ++ b).dropWhile p = l.dropWhile p ++ b
  | [], _, h => absurd rfl h
  | c :: r, b, h => by
    rw [List.dropWhile_cons] at h ⊢
    rw [List.cons_append, List.dropWhile_cons]
    split
    · rename_i hc
      rw [if_pos hc] at h
      exact dropWhile_append_ne r b h
    · rfl
theorem dropWhile_nil_iff {p : UInt8 → Bool} : ∀ (l : List UInt8), l.dropWhile p = [] ↔ ∀ c ∈ l, p c = true
  | [] => by simp
  | a :: r => by
    rw [List.dropWhile_cons]
    split
    · rename_i h
      rw [dropWhile_nil_iff r]
      simp [h]
    · rename_i h
      simp at h ⊢
      simp [h]
theorem dropWhile_length {p : UInt8 → Bool} : ∀ (l : List UInt8), (l.dropWhile p).length ≤ l.length
  | [] => Nat.le_refl _
  | a :: r => by
    rw [List.dropWhile_cons]
    split
    · exact Nat.le_succ_of_le (dropWhile_length r)
    · exact Nat.le_refl _
theorem dropWhile_mem {p : UInt8 → Bool} : ∀ (l : List UInt8) c, c ∈ l.dropWhile p → c ∈ l
  | [], _, h => h
  | a :: r, c, h => by
    rw [List.dropWhile_cons] at h
    split at h
    · exact List.mem_cons_of_mem _ (dropWhile_mem r c h)
    · exact h

/-- no byte of that kind at either end -/
def Ends (p : UInt8 → Bool) (l : List UInt8) : Prop := (∀ c, l.head? = some c → p c = false) ∧ (∀ c, l.reverse.head? = some c → p c = false)

theorem trimP_id {p : UInt8 → Bool} {l : List UInt8} (h : Ends p l) : trimP p l = l := by
  unfold trimP
  rw [dropWhile_id h.1, dropWhile_id h.2, List.reverse_reverse]
theorem trimP_ends (p : UInt8 → Bool) (l : List UInt8) : Ends p (trimP p l) := by
  unfold trimP
  refine ⟨fun c hc => ?_, fun c hc => ?_⟩
  · -- the head of what is left is the head of the first cut
    have hr : ∀ m : List UInt8, (∀ c, m.head? = some c → p c = false) → ∀ c, (m.reverse.dropWhile p).reverse.head? = some c → p c = false := by
      intro m hm c hc
      cases m with
      | nil => simp at hc
      | cons a r =>
        have ha : p a = false := hm a rfl
        have e : ((a :: r).reverse.dropWhile p) = r.reverse.dropWhile p ++ [a] ∨ ((a :: r).reverse.dropWhile p) = [a] := by
          rw [List.reverse_cons]
          by_cases h0 : r.reverse.dropWhile p = []
          · right
            rw [dropWhile_append_all _ _ ((dropWhile_nil_iff _).1 h0)]
            simp [List.dropWhile, ha]
          · left
            exact dropWhile_append_ne _ _ h0
        rcases e with e | e
        · rw [e] at hc
          simp at hc
          subst hc; exact ha
        · rw [e] at hc
          simp at hc
          subst hc; exact ha
    exact hr _ (dropWhile_head l) c hc
  · rw [List.reverse_reverse] at hc
    exact dropWhile_head _ c hc
theorem trimP_trimP (p : UInt8 → Bool) (l : List UInt8) : trimP p (trimP p l) = trimP p l := trimP_id (trimP_ends p l)
theorem trimP_length (p : UInt8 → Bool) (l : List UInt8) : (trimP p l).length ≤ l.length := by
  unfold trimP
  rw [List.length_reverse]
  refine Nat.le_trans (dropWhile_length _) ?_
  rw [List.length_reverse]
  exact dropWhile_length _
theorem trimP_mem {p : UInt8 → Bool} {l : List UInt8} {c : UInt8} (h : c ∈ trimP p l) : c ∈ l := by
  unfold trimP at h
  rw [List.mem_reverse] at h
  have := dropWhile_mem _ _ h
  rw [List.mem_reverse] at this
  exact dropWhile_mem _ _ this
theorem trimP_left {p : UInt8 → Bool} (a l : List UInt8) (h : ∀ c ∈ a, p c = true) : trimP p (a ++ l) = trimP p l := by
  unfold trimP
  rw [dropWhile_append_all _ _ h]
theorem trimP_right {p : UInt8 → Bool} (l b : List UInt8) (h : ∀ c ∈ b, p c = true) : trimP p (l ++ b) = trimP p l := by
  unfold trimP
  by_cases h0 : l.dropWhile p = []
  · have hl := (dropWhile_nil_iff l).1 h0
    rw [h0, dropWhile_append_all _ _ hl, (dropWhile_nil_iff b).2 h]
  · rw [dropWhile_append_ne _ _ h0, List.reverse_append]
    rw [dropWhile_append_all _ _ (fun c hc => h c (by simpa using hc))]
theorem trimP_nil (p : UInt8 → Bool) : trimP p [] = [] := rfl
theorem trimP_ne {p : UInt8 → Bool} {c : UInt8} {l : List UInt8} (hc : p c = true) : trimP p (c :: l) ≠ c :: l := by
  intro h
  have h1 := trimP_length p l
  have h2 : trimP p (c :: l) = trimP p l := trimP_left [c] l (by simpa using hc)
  have h3 := congrArg List.length h
  rw [h2, List.length_cons] at h3
  omega

/-! ### 3. Names, values, letters, methods -/
def nameB (l : List UInt8) : Bool := !l.isEmpty && l.all isTok
def trimB (l : List UInt8) : List UInt8 := trimP isBlank l
def valueB (l : List UInt8) : Bool := trimB l == l && !l.any isBad
def lower (l : List UInt8) : List UInt8 := l.map lowC
def upper (l : List UInt8) : List UInt8 := l.map upC
def foldB (a b : List UInt8) : Bool := lower a == lower b
def methods : List (List UInt8) := [[68, 69, 76, 69, 84, 69], [71, 69, 84], [72, 69, 65, 68], [79, 80, 84, 73, 79, 78, 83], [80, 79, 83, 84], [80, 85, 84]]
def nevers : List (List UInt8) := [[67, 79, 78, 78, 69, 67, 84], [84, 82, 65, 67, 69], [84, 82, 65, 67, 75]]
def method (l : List UInt8) : List UInt8 := if methods.contains (upper l) then upper l else l
def never (l : List UInt8) : Bool := nevers.contains (upper l)

theorem lower_lower (l : List UInt8) : lower (lower l) = lower l := by simp [lower, lowC_lowC]
theorem lower_upper (l : List UInt8) : lower (upper l) = lower l := by simp [lower, upper, lowC_upC]
theorem upper_lower (l : List UInt8) : upper (lower l) = upper l := by simp [lower, upper, upC_lowC]
theorem upper_upper (l : List UInt8) : upper (upper l) = upper l := by simp [upper, upC_upC]
theorem lower_length (l : List UInt8) : (lower l).length = l.length := by simp [lower]
theorem upper_length (l : List UInt8) : (upper l).length = l.length := by simp [upper]
theorem name_lower (l : List UInt8) : nameB (lower l) = nameB l := by
  unfold nameB lower
  rw [List.all_map]
  have : (isTok ∘ lowC) = isTok := by funext c; exact isTok_lowC c
  rw [this]
  cases l <;> rfl
theorem name_ends {l : List UInt8} (h : nameB l = true) (p : UInt8 → Bool) (hp : ∀ c, isTok c = true → p c = false) : Ends p l := by
  simp only [nameB, Bool.and_eq_true, List.all_eq_true] at h
  refine ⟨fun c hc => hp c (h.2 c ?_), fun c hc => hp c (h.2 c ?_)⟩
  · exact List.mem_of_mem_head? hc
  · have := List.mem_of_mem_head? hc
    rwa [List.mem_reverse] at this
theorem name_trim {l : List UInt8} (h : nameB l = true) : trimB l = l := trimP_id (name_ends h _ tok_not_blank)
theorem name_tab {l : List UInt8} (h : nameB l = true) : trimP isTab l = l := trimP_id (name_ends h _ tok_not_tab)
theorem name_value {l : List UInt8} (h : nameB l = true) : valueB l = true := by
  unfold valueB
  rw [name_trim h]
  simp only [nameB, Bool.and_eq_true, List.all_eq_true] at h
  simp only [beq_self_eq_true, Bool.true_and, Bool.not_eq_true', List.any_eq_false]
  intro c hc
  simp [tok_not_bad c (h.2 c hc)]
theorem methods_upper : ∀ m ∈ methods, upper m = m := by decide +kernel
theorem method_method (l : List UInt8) : method (method l) = method l := by
  unfold method
  by_cases h : methods.contains (upper l) = true
  · rw [if_pos h, upper_upper, if_pos h]
  · rw [if_neg h, if_neg h]
theorem lower_method (l : List UInt8) : lower (method l) = lower l := by
  unfold method
  split
  · exact lower_upper l
  · rfl
theorem never_lower (l : List UInt8) : never (lower l) = never l := by unfold never; rw [upper_lower]
theorem lower_eq_upper (a b : List UInt8) : (lower a = lower b) ↔ (upper a = upper b) := by
  constructor
  · intro h
    rw [← upper_lower a, h, upper_lower]
  · intro h
    rw [← lower_upper a, h, lower_upper]
theorem never_fold (l : List UInt8) : nevers.any (fun m => foldB l m) = never l := by
  unfold never
  have e : ∀ m ∈ nevers, foldB l m = (upper l == m) := by
    intro m hm
    have hu : upper m = m := by revert m; decide +kernel
    unfold foldB
    rw [Bool.eq_iff_iff]
    simp only [beq_iff_eq]
    rw [lower_eq_upper, hu]
  rw [Bool.eq_iff_iff]
  simp only [List.any_eq_true, List.contains_iff_mem]
  constructor
  · rintro ⟨m, hm, h⟩
    rw [e m hm, beq_iff_eq] at h
    rw [h]; exact hm
  · intro h
    exact ⟨upper l, h, by rw [e _ h]; simp⟩

/-! ### 4. Parts: a machine of three states: 0 outside of quotes, 1 in quotes, 2 behind a backslash in quotes -/
def next (st : Nat) (c : UInt8) : Nat := if st = 0 then (if c == 34 then 1 else 0) else if st = 1 then (if c == 92 then 2 else if c == 34 then 0 else 1) else 1
def partsGo : Nat → List UInt8 → List UInt8 → List (List UInt8)
  | _, cur, [] => [trimP isTab cur.reverse]
  | st, cur, c :: r => if st = 0 ∧ (c == 44) = true then trimP isTab cur.reverse :: partsGo 0 [] r else partsGo (next st c) (c :: cur) r
def parts (l : List UInt8) : List (List UInt8) := partsGo 0 [] l

theorem partsGo_ne (st : Nat) (cur l : List UInt8) : partsGo st cur l ≠ [] := by
  induction l generalizing st cur with
  | nil => simp [partsGo]
  | cons c r ih =>
    rw [partsGo]
    split
    · simp
    · exact ih _ _
/-- a stretch without commas and quotes, outside of quotes -/
theorem partsGo_plain (a : List UInt8) (h : ∀ c ∈ a, (c == 44) = false ∧ (c == 34) = false) (cur r : List UInt8) : partsGo 0 cur (a ++ r) = partsGo 0 (a.reverse ++ cur) r := by
  induction a generalizing cur with
  | nil => rfl
  | cons c a ih =>
    have hc := h c (by simp)
    rw [List.cons_append, partsGo, if_neg (by simp [hc.1])]
    have hn : next 0 c = 0 := by simp [next, hc.2]
    rw [hn, ih (fun d hd => h d (by simp [hd]))]
    simp
theorem partsGo_comma (cur r : List UInt8) : partsGo 0 cur (44 :: r) = trimP isTab cur.reverse :: partsGo 0 [] r := by
  rw [partsGo, if_pos (by simp)]
/-- a stretch without quotes and backslashes, in quotes -/
theorem partsGo_quoted (a : List UInt8) (h : ∀ c ∈ a, (c == 34) = false ∧ (c == 92) = false) (cur r : List UInt8) : partsGo 1 cur (a ++ r) = partsGo 1 (a.reverse ++ cur) r := by
  induction a generalizing cur with
  | nil => rfl
  | cons c a ih =>
    have hc := h c (by simp)
    rw [List.cons_append, partsGo, if_neg (by simp)]
    have hn : next 1 c = 1 := by simp [next, hc.1, hc.2]
    rw [hn, ih (fun d hd => h d (by simp [hd]))]
    simp
/-- one piece more, behind a text without quotes -/
theorem partsGo_snoc (s : List UInt8) (h : ∀ c ∈ s, (c == 34) = false) (t : List UInt8) (ht : ∀ c ∈ t, (c == 44) = false ∧ (c == 34) = false) (cur : List UInt8) :
    partsGo 0 cur (s ++ 44 :: t) = partsGo 0 cur s ++ [trimP isTab t] := by
  induction s generalizing cur with
  | nil =>
    rw [List.nil_append, partsGo_comma]
    have := partsGo_plain t ht [] []
    rw [List.append_nil] at this
    rw [this]
    simp [partsGo]
  | cons c s ih =>
    have hc := h c (by simp)
    have h' : ∀ d ∈ s, (d == 34) = false := fun d hd => h d (by simp [hd])
    by_cases h44 : (c == 44) = true
    · obtain rfl : c = 44 := by simpa using h44
      rw [List.cons_append, partsGo_comma, partsGo_comma, ih h', List.cons_append]
    · have hn : next 0 c = 0 := by simp [next, hc]
      rw [List.cons_append, partsGo, if_neg (by simp [h44]), hn, ih h', partsGo, if_neg (by simp [h44]), hn]
theorem parts_one {t : List UInt8} (ht : ∀ c ∈ t, (c == 44) = false ∧ (c == 34) = false) : parts t = [trimP isTab t] := by
  have := partsGo_plain t ht [] []
  rw [List.append_nil] at this
  unfold parts
  rw [this]
  simp [partsGo]
theorem parts_snoc {s t : List UInt8} (h : ∀ c ∈ s, (c == 34) = false) (ht : ∀ c ∈ t, (c == 44) = false ∧ (c == 34) = false) : parts (s ++ 44 :: t) = parts s ++ [trimP isTab t] := partsGo_snoc s h t ht []

/-- how many commas -/
def commas (l : List UInt8) : Nat := (l.filter (· == 44)).length
theorem partsGo_length (s : List UInt8) (h : ∀ c ∈ s, (c == 34) = false) (cur : List UInt8) : (partsGo 0 cur s).length = commas s + 1 := by
  induction s generalizing cur with
  | nil => simp [partsGo, commas]
  | cons c s ih =>
    have hc := h c (by simp)
    have h' : ∀ d ∈ s, (d == 34) = false := fun d hd => h d (by simp [hd])
    by_cases h44 : (c == 44) = true
    · obtain rfl : c = 44 := by simpa using h44
      rw [partsGo_comma, List.length_cons, ih h']
      simp [commas]
    · have hn : next 0 c = 0 := by simp [next, hc]
      rw [partsGo, if_neg (by simp [h44]), hn, ih h']
      simp [commas, h44]
/-- each part of a text without quotes: no comma, no quote, trimmed -/
theorem partsGo_pieces (s : List UInt8) (h : ∀ c ∈ s, (c == 34) = false) (cur : List UInt8) (hcur : ∀ c ∈ cur, (c == 44) = false ∧ (c == 34) = false) :
    ∀ x ∈ partsGo 0 cur s, (∀ c ∈ x, (c == 44) = false ∧ (c == 34) = false) ∧ trimP isTab x = x := by
  induction s generalizing cur with
  | nil =>
    intro x hx
    simp only [partsGo, List.mem_singleton] at hx
    subst hx
    exact ⟨fun c hc => hcur c (by simpa using trimP_mem hc), trimP_trimP _ _⟩
  | cons c s ih =>
    have hc := h c (by simp)
    have h' : ∀ d ∈ s, (d == 34) = false := fun d hd => h d (by simp [hd])
    intro x hx
    by_cases h44 : (c == 44) = true
    · obtain rfl : c = 44 := by simpa using h44
      rw [partsGo_comma] at hx
      rcases List.mem_cons.1 hx with rfl | hx
      · exact ⟨fun c hc => hcur c (by simpa using trimP_mem hc), trimP_trimP _ _⟩
      · exact ih h' [] (by simp) x hx
    · have hn : next 0 c = 0 := by simp [next, hc]
      rw [partsGo, if_neg (by simp [h44]), hn] at hx
      exact ih h' (c :: cur) (by
        intro d hd
        rcases List.mem_cons.1 hd with rfl | hd
        · exact ⟨by simpa using h44, hc⟩
        · exact hcur d hd) x hx
/-- put together with commas -/
def joinC : List (List UInt8) → List UInt8
  | [] => []
  | [x] => x
  | x :: y :: r => x ++ 44 :: joinC (y :: r)
theorem joinC_snoc (l : List (List UInt8)) (x : List UInt8) (h : l ≠ []) : joinC (l ++ [x]) = joinC l ++ 44 :: x := by
  induction l with
  | nil => exact absurd rfl h
  | cons a l ih =>
    cases l with
    | nil => rfl
    | cons b r =>
      have := ih (by simp)
      simp only [List.cons_append, joinC, List.append_assoc] at this ⊢
      rw [this]
theorem parts_joinC (l : List (List UInt8)) (hne : l ≠ []) (h : ∀ x ∈ l, (∀ c ∈ x, (c == 44) = false ∧ (c == 34) = false) ∧ trimP isTab x = x) : parts (joinC l) = l := by
  induction l with
  | nil => exact absurd rfl hne
  | cons a l ih =>
    obtain ⟨ha, ta⟩ := h a (by simp)
    cases l with
    | nil => rw [joinC, parts_one ha, ta]
    | cons b r =>
      have := ih (by simp) (fun x hx => h x (by simp [hx]))
      rw [joinC]
      unfold parts at this ⊢
      rw [partsGo_plain a ha, partsGo_comma, this]
      simp [ta]
theorem parts_again {s : List UInt8} (h : ∀ c ∈ s, (c == 34) = false) : parts (joinC (parts s)) = parts s :=
  parts_joinC _ (partsGo_ne _ _ _) (partsGo_pieces s h [] (by simp))
theorem parts_count {s : List UInt8} (h : ∀ c ∈ s, (c == 34) = false) : (parts s).length = commas s + 1 := partsGo_length s h []

/-- what stands in quotes is one part -/
theorem parts_quoted {s : List UInt8} (h : ∀ c ∈ s, (c == 34) = false ∧ (c == 92) = false) : parts (34 :: (s ++ [34])) = [34 :: (s ++ [34])] := by
  unfold parts
  rw [partsGo, if_neg (by decide)]
  have h1 : next 0 34 = 1 := by decide
  rw [h1, partsGo_quoted s h, partsGo, if_neg (by simp)]
  simp only [partsGo, List.reverse_cons, List.reverse_append, List.reverse_reverse, List.reverse_nil, List.nil_append, List.cons_append]
  congr 1
  refine trimP_id ⟨fun c hc => ?_, fun c hc => ?_⟩
  · simp at hc; subst hc; decide
  · simp at hc; subst hc; decide
theorem parts_open {s : List UInt8} (h : ∀ c ∈ s, (c == 34) = false ∧ (c == 92) = false) : (parts (34 :: s)).length = 1 := by
  unfold parts
  rw [partsGo, if_neg (by decide)]
  have h1 : next 0 34 = 1 := by decide
  have h2 := partsGo_quoted s h [34] []
  rw [List.append_nil] at h2
  rw [h1, h2]
  rfl
theorem parts_behind {s name : List UInt8} (h : ∀ c ∈ s, (c == 34) = false ∧ (c == 92) = false) (hn : nameB name = true) : parts (34 :: (s ++ 34 :: 44 :: name)) = [34 :: (s ++ [34]), name] := by
  have hq := parts_quoted h
  unfold parts at hq ⊢
  have h1 : next 0 34 = 1 := by decide
  have h2 : next 1 34 = 0 := by decide
  rw [partsGo, if_neg (by decide), h1, partsGo_quoted s h, partsGo, if_neg (by simp), h2] at hq ⊢
  rw [partsGo_comma]
  rw [partsGo] at hq
  have ht : ∀ c ∈ name, (c == 44) = false ∧ (c == 34) = false := fun c hc => by
    simp only [nameB, Bool.and_eq_true, List.all_eq_true] at hn
    exact ⟨(tok_not_sep c (hn.2 c hc)).1, (tok_not_sep c (hn.2 c hc)).2.1⟩
  have := parts_one ht
  unfold parts at this
  rw [this, name_tab hn]
  rw [List.cons.injEq] at hq
  rw [hq.1]
end Go.Proofs.YtikhboebmmmopaaGreatDoor.Plain
namespace Go.Proofs.YtikhboebmmmopaaGreatDoor.Plain

def upTo (c : UInt8) (l : List UInt8) : List UInt8 := l.takeWhile (· != c)
def past (c : UInt8) (l : List UInt8) : List UInt8 := (l.dropWhile (· != c)).drop 1
theorem upTo_none (c : UInt8) : ∀ (l : List UInt8), c ∉ l → upTo c l = l
  | [], _ => rfl
  | a :: r, h => by
    have h1 : (a != c) = true := by simp only [bne_iff_ne, ne_eq]; intro e; exact h (by rw [e]; exact List.mem_cons_self ..)
    have h2 := upTo_none c r (fun hc => h (List.mem_cons_of_mem _ hc))
    unfold upTo at h2 ⊢
    rw [List.takeWhile_cons, if_pos h1, h2]
theorem upTo_at (c : UInt8) (r : List UInt8) : ∀ (l : List UInt8), c ∉ l → upTo c (l ++ c :: r) = l
  | [], _ => by simp [upTo]
  | a :: t, h => by
    have h1 : (a != c) = true := by simp only [bne_iff_ne, ne_eq]; intro e; exact h (by rw [e]; exact List.mem_cons_self ..)
    have h2 := upTo_at c r t (fun hc => h (List.mem_cons_of_mem _ hc))
    unfold upTo at h2 ⊢
    rw [List.cons_append, List.takeWhile_cons, if_pos h1, h2]
theorem past_at (c : UInt8) (r : List UInt8) : ∀ (l : List UInt8), c ∉ l → past c (l ++ c :: r) = r
  | [], _ => by simp [past]
  | a :: t, h => by
    have h1 : (a != c) = true := by simp only [bne_iff_ne, ne_eq]; intro e; exact h (by rw [e]; exact List.mem_cons_self ..)
    have h2 := past_at c r t (fun hc => h (List.mem_cons_of_mem _ hc))
    unfold past at h2 ⊢
    rw [List.cons_append, List.dropWhile_cons, if_pos h1, h2]
theorem past_none (c : UInt8) : ∀ (l : List UInt8), c ∉ l → past c l = []
  | [], _ => rfl
  | a :: r, h => by
    have h1 : (a != c) = true := by simp only [bne_iff_ne, ne_eq]; intro e; exact h (by rw [e]; exact List.mem_cons_self ..)
    have h2 := past_none c r (fun hc => h (List.mem_cons_of_mem _ hc))
    unfold past at h2 ⊢
    rw [List.dropWhile_cons, if_pos h1, h2]
theorem split_at (c : UInt8) : ∀ (l : List UInt8), c ∈ l → l = upTo c l ++ c :: past c l ∧ c ∉ upTo c l
  | [], h => by cases h
  | a :: r, h => by
    by_cases e : a = c
    · subst e
      simp [upTo, past]
    · have h1 : (a != c) = true := by simpa using e
      obtain ⟨h2, h3⟩ := split_at c r (by rcases List.mem_cons.1 h with h | h; exact absurd h.symm e; exact h)
      have e1 : upTo c (a :: r) = a :: upTo c r := by unfold upTo; rw [List.takeWhile_cons, if_pos h1]
      have e2 : past c (a :: r) = past c r := by unfold past; rw [List.dropWhile_cons, if_pos h1]
      rw [e1, e2]
      refine ⟨by rw [List.cons_append, ← h2], ?_⟩
      intro hc
      rcases List.mem_cons.1 hc with hc | hc
      · exact e hc.symm
      · exact h3 hc

def essence (l : List UInt8) : Option (List UInt8) :=
  if (trimB (upTo 59 l)).contains 47 = true ∧ nameB (upTo 47 (trimB (upTo 59 l))) = true ∧ nameB (past 47 (trimB (upTo 59 l))) = true then
    some (lower (upTo 47 (trimB (upTo 59 l)) ++ 47 :: past 47 (trimB (upTo 59 l)))) else none

theorem name_mem {l : List UInt8} (h : nameB l = true) (c : UInt8) (hc : c ∈ l) : isTok c = true := by
  simp only [nameB, Bool.and_eq_true, List.all_eq_true] at h
  exact h.2 c hc
theorem name_no {l : List UInt8} (h : nameB l = true) : (47 : UInt8) ∉ l ∧ (59 : UInt8) ∉ l := by
  refine ⟨fun hc => ?_, fun hc => ?_⟩
  · have := name_mem h _ hc
    revert this; decide +kernel
  · have := name_mem h _ hc
    revert this; decide +kernel
theorem name_ne {l : List UInt8} (h : nameB l = true) : l ≠ [] := by
  rintro rfl
  cases h
theorem two_ends {a b : List UInt8} (m : List UInt8) (ha : nameB a = true) (hb : nameB b = true) : trimB (a ++ m ++ b) = a ++ m ++ b := by
  refine trimP_id ⟨fun c hc => tok_not_blank c ?_, fun c hc => tok_not_blank c ?_⟩
  · cases a with
    | nil => exact absurd rfl (name_ne ha)
    | cons x r =>
      simp only [List.cons_append, List.head?_cons, Option.some.injEq] at hc
      subst hc
      exact name_mem ha _ (List.mem_cons_self ..)
  · have hne := name_ne hb
    rw [List.reverse_append] at hc
    cases hr : b.reverse with
    | nil => exact absurd (List.reverse_eq_nil_iff.1 hr) hne
    | cons x r =>
      rw [hr] at hc
      simp only [List.cons_append, List.head?_cons, Option.some.injEq] at hc
      subst hc
      refine name_mem hb _ ?_
      rw [← List.mem_reverse, hr]
      exact List.mem_cons_self ..
theorem essence_at {l a b : List UInt8} (h : trimB (upTo 59 l) = a ++ 47 :: b) (ha : (47 : UInt8) ∉ a) :
    essence l = if nameB a = true ∧ nameB b = true then some (lower (a ++ 47 :: b)) else none := by
  unfold essence
  rw [h, upTo_at 47 b a ha, past_at 47 b a ha]
  have : (a ++ 47 :: b).contains 47 = true := by simp
  rw [this]
  by_cases h1 : nameB a = true ∧ nameB b = true
  · rw [if_pos h1, if_pos ⟨rfl, h1⟩]
  · rw [if_neg h1, if_neg (fun h => h1 h.2)]
theorem essence_none {l : List UInt8} (h : (47 : UInt8) ∉ trimB (upTo 59 l)) : essence l = none := by
  unfold essence
  rw [if_neg]
  rintro ⟨h1, _⟩
  rw [List.contains_iff_mem] at h1
  exact h h1
theorem essence_some {l e : List UInt8} (h : essence l = some e) : ∃ a b, nameB a = true ∧ nameB b = true ∧ e = a ++ 47 :: b ∧ lower e = e := by
  unfold essence at h
  split at h
  · rename_i hc
    obtain ⟨h1, h2, h3⟩ := hc
    cases h
    refine ⟨lower (upTo 47 (trimB (upTo 59 l))), lower (past 47 (trimB (upTo 59 l))), by rw [name_lower]; exact h2, by rw [name_lower]; exact h3, ?_, lower_lower _⟩
    unfold lower
    rw [List.map_append, List.map_cons]
    rfl
  · cases h
theorem upTo_names {a b : List UInt8} (ha : nameB a = true) (hb : nameB b = true) (m : List UInt8) (hm : (59 : UInt8) ∉ m) : (59 : UInt8) ∉ a ++ m ++ b := by
  intro h
  rcases List.mem_append.1 h with h | h
  · rcases List.mem_append.1 h with h | h
    · exact (name_no ha).2 h
    · exact hm h
  · exact (name_no hb).2 h

/-! ### MimeNames -/
theorem names_one {a b : List UInt8} (ha : nameB a = true) (hb : nameB b = true) (more : List UInt8) :
    essence (a ++ [47] ++ b ++ [59] ++ more) = some (lower a ++ [47] ++ lower b) := by
  have h1 : upTo 59 (a ++ [47] ++ b ++ [59] ++ more) = a ++ [47] ++ b := by
    rw [show a ++ [47] ++ b ++ [59] ++ more = (a ++ [47] ++ b) ++ 59 :: more by simp]
    exact upTo_at 59 more _ (upTo_names ha hb _ (by decide))
  rw [essence_at (a := a) (b := b) (by rw [h1, two_ends _ ha hb]; simp) (name_no ha).1, if_pos ⟨ha, hb⟩]
  unfold lower
  rw [List.map_append, List.map_cons]
  simp [show lowC 47 = 47 from by decide]
theorem names_ahead {a b : List UInt8} (ha : nameB a = true) (hb : nameB b = true) : essence (a ++ [32, 47] ++ b) = none := by
  have h1 : upTo 59 (a ++ [32, 47] ++ b) = a ++ [32, 47] ++ b := upTo_none 59 _ (upTo_names ha hb _ (by decide))
  rw [essence_at (a := a ++ [32]) (b := b) (by rw [h1, two_ends _ ha hb]; simp) (by
    intro h
    rcases List.mem_append.1 h with h | h
    · exact (name_no ha).1 h
    · revert h; decide), if_neg]
  rintro ⟨h, _⟩
  have := name_mem h 32 (by simp)
  revert this; decide +kernel
theorem names_behind {a b : List UInt8} (ha : nameB a = true) (hb : nameB b = true) : essence (a ++ [47, 32] ++ b) = none := by
  have h1 : upTo 59 (a ++ [47, 32] ++ b) = a ++ [47, 32] ++ b := upTo_none 59 _ (upTo_names ha hb _ (by decide))
  rw [essence_at (a := a) (b := 32 :: b) (by rw [h1, two_ends _ ha hb]; simp) (name_no ha).1, if_neg]
  rintro ⟨_, h⟩
  have := name_mem h 32 (by simp)
  revert this; decide +kernel
theorem names_again {a b : List UInt8} (ha : nameB a = true) (hb : nameB b = true) : essence (a ++ [47] ++ b ++ [47] ++ b) = none := by
  have e : a ++ [47] ++ b ++ [47] ++ b = a ++ ([47] ++ b ++ [47]) ++ b := by simp
  have h1 : upTo 59 (a ++ [47] ++ b ++ [47] ++ b) = a ++ [47] ++ b ++ [47] ++ b := by
    rw [e]
    refine upTo_none 59 _ (upTo_names ha hb _ ?_)
    intro h
    simp only [List.mem_append, List.mem_singleton] at h
    rcases h with (h | h) | h
    · revert h; decide
    · exact (name_no hb).2 h
    · revert h; decide
  rw [essence_at (a := a) (b := b ++ [47] ++ b) (by rw [h1, e, two_ends _ ha hb]; simp) (name_no ha).1, if_neg]
  rintro ⟨_, h⟩
  have := name_mem h 47 (by simp)
  revert this; decide +kernel
theorem names_none {a b : List UInt8} (ha : nameB a = true) (hb : nameB b = true) : essence (a ++ b) = none := by
  have e : a ++ b = a ++ [] ++ b := by simp
  have h1 : upTo 59 (a ++ b) = a ++ b := by
    rw [e]
    exact upTo_none 59 _ (upTo_names ha hb _ (by simp))
  refine essence_none ?_
  rw [h1, e, two_ends _ ha hb]
  simp only [List.append_nil, List.mem_append, not_or]
  exact ⟨(name_no ha).1, (name_no hb).1⟩

/-! ### MimeOwn -/
theorem own_one {s e : List UInt8} (h : essence s = some e) : essence e = some e := by
  obtain ⟨a, b, ha, hb, rfl, hl⟩ := essence_some h
  have e : a ++ 47 :: b = a ++ [47] ++ b := by simp
  have h1 : upTo 59 (a ++ 47 :: b) = a ++ 47 :: b := by
    rw [e]
    exact upTo_none 59 _ (upTo_names ha hb _ (by decide))
  rw [essence_at (a := a) (b := b) (by rw [h1, e, two_ends _ ha hb]) (name_no ha).1, if_pos ⟨ha, hb⟩, hl]
theorem own_two {s e : List UInt8} (h : essence s = some e) (more : List UInt8) : essence ([32, 9] ++ e ++ [32, 59] ++ more) = some e := by
  obtain ⟨a, b, ha, hb, rfl, hl⟩ := essence_some h
  have e : a ++ 47 :: b = a ++ [47] ++ b := by simp
  have hn : (59 : UInt8) ∉ a ++ 47 :: b := by
    rw [e]
    exact upTo_names ha hb _ (by decide)
  have h1 : upTo 59 ([32, 9] ++ (a ++ 47 :: b) ++ [32, 59] ++ more) = [32, 9] ++ (a ++ 47 :: b) ++ [32] := by
    rw [show [32, 9] ++ (a ++ 47 :: b) ++ [32, 59] ++ more = ([32, 9] ++ (a ++ 47 :: b) ++ [32]) ++ 59 :: more by simp]
    refine upTo_at 59 more _ ?_
    intro h
    rcases List.mem_append.1 h with h | h
    · rcases List.mem_append.1 h with h | h
      · revert h; decide
      · exact hn h
    · revert h; decide
  have h2 : trimB ([32, 9] ++ (a ++ 47 :: b) ++ [32]) = a ++ 47 :: b := by
    unfold trimB
    rw [trimP_right _ _ (by decide), trimP_left _ _ (by decide)]
    have := two_ends [47] ha hb
    unfold trimB at this
    rw [e]
    exact this
  rw [essence_at (a := a) (b := b) (by rw [h1, h2]) (name_no ha).1, if_pos ⟨ha, hb⟩, hl]
theorem essence_ne {s e : List UInt8} (h : essence s = some e) : e ≠ [] := by
  obtain ⟨a, b, _, _, rfl, _⟩ := essence_some h
  simp
theorem essence_length {s e : List UInt8} (h : essence s = some e) : e.length ≤ s.length := by
  have hu : ∀ (c : UInt8) (l : List UInt8), (upTo c l).length ≤ l.length := by
    intro c l
    unfold upTo
    exact (List.takeWhile_prefix _).length_le
  unfold essence at h
  split at h
  · rename_i hc
    cases h
    rw [lower_length, ← (split_at 47 _ (by simpa using hc.1)).1]
    exact Nat.le_trans (trimP_length _ _) (hu _ _)
  · cases h

/-! ### which one counts -/
def counts (p : List UInt8) : Option (List UInt8) := match essence p with
  | some e => if e = [42, 47, 42] then none else some e
  | none => none
def lastOf (l : List (List UInt8)) : Option (List UInt8) := l.reverse.findSome? counts
theorem lastOf_snoc (l : List (List UInt8)) (p : List UInt8) : lastOf (l ++ [p]) = match counts p with | some e => some e | none => lastOf l := by
  unfold lastOf
  rw [List.reverse_append, List.reverse_singleton, List.singleton_append, List.findSome?_cons]
  cases counts p <;> rfl
theorem partsGo_mem (l : List UInt8) : ∀ (st : Nat) (cur p : List UInt8), p ∈ partsGo st cur l → p.length ≤ cur.length + l.length := by
  induction l with
  | nil =>
    intro st cur p hp
    have : p = trimP isTab cur.reverse := by simpa [partsGo] using hp
    rw [this]
    have := trimP_length isTab cur.reverse
    rw [List.length_reverse] at this
    simpa using this
  | cons c r ih =>
    intro st cur p hp
    rw [partsGo] at hp
    split at hp
    · rcases List.mem_cons.1 hp with rfl | hp
      · have := trimP_length isTab cur.reverse
        rw [List.length_reverse] at this
        rw [List.length_cons]
        omega
      · have := ih 0 [] p hp
        simp only [List.length_nil, List.length_cons] at this ⊢
        omega
    · have := ih _ _ p hp
      simp only [List.length_cons] at this ⊢
      omega
theorem parts_mem_le {l p : List UInt8} (h : p ∈ parts l) : p.length ≤ l.length := by
  have := partsGo_mem l 0 [] p h
  simpa using this
end Go.Proofs.YtikhboebmmmopaaGreatDoor.Plain
namespace Go.Proofs.YtikhboebmmmopaaGreatDoor.Plain
open Go (leB)

theorem lt_of_le_ne {x y : List UInt8} (h : x ≤ y) (hne : x ≠ y) : x < y := by
  rcases Classical.em (x < y) with h1 | h1
  · exact h1
  · exact absurd (List.le_antisymm h (List.not_lt.1 h1)) hne
theorem lt_asymm' {x y : List UInt8} (h : x < y) (h2 : y < x) : False := (List.not_lt.2 (List.le_of_lt h)) h2

def dd : List (List UInt8) → List (List UInt8)
  | [] => []
  | x :: r => if x ∈ r then dd r else x :: dd r
theorem mem_dd (y : List UInt8) : ∀ l, y ∈ dd l ↔ y ∈ l
  | [] => Iff.rfl
  | x :: r => by
    have ih := mem_dd y r
    unfold dd
    split
    · rename_i h
      rw [ih, List.mem_cons]
      constructor
      · exact .inr
      · rintro (rfl | h1)
        · exact h
        · exact h1
    · rw [List.mem_cons, List.mem_cons, ih]
theorem nodup_dd : ∀ l, (dd l).Nodup
  | [] => List.nodup_nil
  | x :: r => by
    unfold dd
    split
    · exact nodup_dd r
    · rename_i h
      rw [List.nodup_cons, mem_dd]
      exact ⟨h, nodup_dd r⟩
theorem dd_length : ∀ l, (dd l).length ≤ l.length
  | [] => Nat.le_refl _
  | x :: r => by
    have ih := dd_length r
    unfold dd
    split
    · rw [List.length_cons]; omega
    · rw [List.length_cons, List.length_cons]; omega

/-- names, each once, in order -/
def nm (l : List (List UInt8)) : List (List UInt8) := (dd l).mergeSort leB
theorem mem_nm (x : List UInt8) (l : List (List UInt8)) : x ∈ nm l ↔ x ∈ l := by
  unfold nm
  rw [(List.mergeSort_perm (dd l) leB).mem_iff, mem_dd]
theorem nm_length (l : List (List UInt8)) : (nm l).length ≤ l.length := by
  unfold nm
  rw [List.length_mergeSort]
  exact dd_length l
theorem nm_of_perm {ss l : List (List UInt8)} (hn : ss.Nodup) (h : ∀ x, x ∈ ss ↔ x ∈ l) : ss.mergeSort leB = nm l :=
  mergeSort_of_perm ((List.perm_ext_iff_of_nodup hn (nodup_dd l)).2 fun x => by rw [h x, mem_dd])
theorem nm_congr {a b : List (List UInt8)} (h : ∀ x, x ∈ a ↔ x ∈ b) : nm a = nm b :=
  nm_of_perm (nodup_dd a) fun x => by rw [mem_dd, h x]
theorem nm_sorted (l : List (List UInt8)) : (nm l).Pairwise (fun x y => x < y) := by
  have tr : ∀ a b c : List UInt8, leB a b = true → leB b c = true → leB a c = true := fun a b c h1 h2 => by simp only [leB, decide_eq_true_eq] at *; exact List.le_trans h1 h2
  have to : ∀ a b : List UInt8, (leB a b || leB b a) = true := fun a b => by simp only [leB, Bool.or_eq_true, decide_eq_true_eq]; exact List.le_total a b
  have h1 := List.pairwise_mergeSort tr to (dd l)
  have h2 : (nm l).Nodup := (List.mergeSort_perm (dd l) leB).nodup_iff.2 (nodup_dd l)
  exact (h1.and h2).imp fun {x y} h => lt_of_le_ne (of_decide_eq_true h.1) h.2
theorem strict_ext {a b : List (List UInt8)} (ha : a.Pairwise (fun x y => x < y)) (hb : b.Pairwise (fun x y => x < y)) (h : ∀ x, x ∈ a ↔ x ∈ b) : a = b := by
  have na : a.Nodup := ha.imp fun {x y} hxy e => by subst e; exact lt_asymm' hxy hxy
  have nb : b.Nodup := hb.imp fun {x y} hxy e => by subst e; exact lt_asymm' hxy hxy
  exact List.Perm.eq_of_pairwise (le := fun x y => x < y) (fun x y _ _ h1 h2 => absurd h2 fun h2 => lt_asymm' h1 h2) ha hb ((List.perm_ext_iff_of_nodup na nb).2 h)
theorem nm_at (l : List (List UInt8)) (i j : Nat) (hij : i < j) (hj : j < (nm l).length) : (nm l)[i]'(by omega) < (nm l)[j] :=
  List.pairwise_iff_getElem.1 (nm_sorted l) i j (by omega) hj hij
theorem nm_nil : nm [] = [] := by simp [nm, dd]
theorem nm_one (x : List UInt8) : nm [x] = [x] := by
  have h1 : dd [x] = [x] := by simp [dd]
  unfold nm
  rw [h1]
  exact List.mergeSort_singleton x

/-! ### a row that rises, with one more -/
def ins (s : List UInt8) : List (List UInt8) → List (List UInt8)
  | [] => [s]
  | x :: r => if x < s then x :: ins s r else if x = s then x :: r else s :: x :: r
theorem mem_ins (s y : List UInt8) : ∀ l, y ∈ ins s l ↔ y = s ∨ y ∈ l
  | [] => by simp [ins]
  | x :: r => by
    have ih := mem_ins s y r
    unfold ins
    split
    · rw [List.mem_cons, ih, List.mem_cons]
      constructor
      · rintro (h | h | h)
        · exact .inr (.inl h)
        · exact .inl h
        · exact .inr (.inr h)
      · rintro (h | h | h)
        · exact .inr (.inl h)
        · exact .inl h
        · exact .inr (.inr h)
    · split
      · rename_i h
        subst h
        rw [List.mem_cons]
        constructor
        · exact .inr
        · rintro (h | h)
          · exact .inl h
          · exact h
      · rw [List.mem_cons]
theorem ins_sorted (s : List UInt8) : ∀ l, l.Pairwise (fun x y => x < y) → (ins s l).Pairwise (fun x y => x < y)
  | [], _ => List.pairwise_singleton _ _
  | x :: r, h => by
    obtain ⟨h1, h2⟩ := List.pairwise_cons.1 h
    unfold ins
    split
    · rename_i hx
      refine List.pairwise_cons.2 ⟨fun y hy => ?_, ins_sorted s r h2⟩
      rcases (mem_ins s y r).1 hy with rfl | hy
      · exact hx
      · exact h1 y hy
    · split
      · exact h
      · rename_i hx hne
        have hsx : s < x := lt_of_le_ne (List.not_lt.1 hx) (fun e => hne e.symm)
        refine List.pairwise_cons.2 ⟨fun y hy => ?_, h⟩
        rcases List.mem_cons.1 hy with rfl | hy
        · exact hsx
        · exact List.lt_trans hsx (h1 y hy)
theorem ins_length (s : List UInt8) : ∀ l, (ins s l).length ≤ l.length + 1
  | [] => Nat.le_refl _
  | x :: r => by
    have ih := ins_length s r
    unfold ins
    split
    · simp only [List.length_cons]; omega
    · split <;> simp only [List.length_cons] <;> omega

/-! ### what needs leave -/
section
variable {α : Type} (h : α → Bool) (len : α → Nat) (name : α → List UInt8)
def good (l : List α) : Nat := ((l.filter h).map len).sum
def badly (l : List α) : List α := if 1024 < good h len l then l.filter (fun f => !h f) ++ l.filter h else l.filter (fun f => !h f)
def uns (l : List α) : List (List UInt8) := nm ((badly h len l).map name)
theorem mem_uns (x : List UInt8) (l : List α) : x ∈ uns h len name l ↔ ∃ f, f ∈ l ∧ name f = x ∧ (h f = false ∨ 1024 < good h len l) := by
  unfold uns badly
  rw [mem_nm]
  split
  · rename_i hg
    rw [List.mem_map]
    constructor
    · rintro ⟨f, hf, rfl⟩
      refine ⟨f, ?_, rfl, .inr hg⟩
      rcases List.mem_append.1 hf with hf | hf <;> exact (List.mem_filter.1 hf).1
    · rintro ⟨f, hf, rfl, _⟩
      refine ⟨f, List.mem_append.2 ?_, rfl⟩
      cases hh : h f
      · exact .inl (List.mem_filter.2 ⟨hf, by simp [hh]⟩)
      · exact .inr (List.mem_filter.2 ⟨hf, hh⟩)
  · rename_i hg
    rw [List.mem_map]
    constructor
    · rintro ⟨f, hf, rfl⟩
      obtain ⟨h1, h2⟩ := List.mem_filter.1 hf
      exact ⟨f, h1, rfl, .inl (by simpa using h2)⟩
    · rintro ⟨f, hf, rfl, hh⟩
      rcases hh with hh | hh
      · exact ⟨f, List.mem_filter.2 ⟨hf, by simp [hh]⟩, rfl⟩
      · exact absurd hh hg
theorem uns_sorted (l : List α) : (uns h len name l).Pairwise (fun x y => x < y) := nm_sorted _
theorem badly_length (l : List α) : (badly h len l).length ≤ l.length := by
  have h1 : (l.filter (fun f => !h f)).length + (l.filter h).length = l.length := by
    induction l with
    | nil => rfl
    | cons x r ih => cases hx : h x <;> simp [List.filter_cons, hx] <;> omega
  unfold badly
  split
  · rw [List.length_append]; omega
  · omega
theorem uns_length (l : List α) : (uns h len name l).length ≤ l.length := by
  refine Nat.le_trans (nm_length _) ?_
  rw [List.length_map]
  exact badly_length h len l
theorem uns_ext {l m : List α} (hm : ∀ f, f ∈ l ↔ f ∈ m) (hg : (1024 < good h len l) ↔ (1024 < good h len m)) : uns h len name l = uns h len name m :=
  strict_ext (uns_sorted h len name l) (uns_sorted h len name m) fun x => by
    rw [mem_uns, mem_uns]
    constructor
    · rintro ⟨f, h1, h2, h3⟩; exact ⟨f, (hm f).1 h1, h2, h3.imp id hg.1⟩
    · rintro ⟨f, h1, h2, h3⟩; exact ⟨f, (hm f).2 h1, h2, h3.imp id hg.2⟩
theorem good_append (l m : List α) : good h len (l ++ m) = good h len l + good h len m := by
  unfold good
  rw [List.filter_append, List.map_append, List.sum_append]
theorem good_one (f : α) : good h len [f] = if h f = true then len f else 0 := by
  unfold good
  cases hf : h f <;> simp [hf]
theorem good_cons (f : α) (l : List α) : good h len (f :: l) = (if h f = true then len f else 0) + good h len l := by
  rw [← List.singleton_append, good_append, good_one]
theorem good_reverse (l : List α) : good h len l.reverse = good h len l := by
  unfold good
  rw [List.filter_reverse, List.map_reverse, List.sum_reverse]
theorem good_le (l : List α) : good h len l ≤ (l.map len).sum := by
  induction l with
  | nil => exact Nat.le_refl _
  | cons f l ih =>
    rw [good_cons, List.map_cons, List.sum_cons]
    split <;> omega
theorem uns_reverse (l : List α) : uns h len name l.reverse = uns h len name l :=
  uns_ext h len name (fun f => List.mem_reverse) (by rw [good_reverse])
theorem uns_more (l : List α) (f : α) (x : List UInt8) (hx : x ∈ uns h len name l) : x ∈ uns h len name (l ++ [f]) := by
  rw [mem_uns] at hx ⊢
  obtain ⟨g, h1, h2, h3⟩ := hx
  refine ⟨g, List.mem_append.2 (.inl h1), h2, h3.imp id fun hg => ?_⟩
  rw [good_append]
  omega
theorem uns_new (l : List α) (f : α) (hf : h f = false) : name f ∈ uns h len name (l ++ [f]) := by
  rw [mem_uns]
  exact ⟨f, List.mem_append.2 (.inr (List.mem_singleton.2 rfl)), rfl, .inl hf⟩
theorem uns_same (l : List α) (f : α) (hf : h f = true) (hs : (l.map len).sum + len f ≤ 1024) : uns h len name (l ++ [f]) = uns h len name l := by
  have h1 := good_le h len l
  have h2 : good h len (l ++ [f]) = good h len l + len f := by rw [good_append, good_one, if_pos hf]
  refine strict_ext (uns_sorted h len name _) (uns_sorted h len name _) fun x => ?_
  rw [mem_uns, mem_uns]
  constructor
  · rintro ⟨g, a1, a2, a3⟩
    rcases a3 with a3 | a3
    · rcases List.mem_append.1 a1 with a1 | a1
      · exact ⟨g, a1, a2, .inl a3⟩
      · rw [List.mem_singleton.1 a1, hf] at a3
        cases a3
    · omega
  · rintro ⟨g, a1, a2, a3⟩
    rcases a3 with a3 | a3
    · exact ⟨g, List.mem_append.2 (.inl a1), a2, .inl a3⟩
    · omega
theorem uns_one_ok (f : α) (hf : h f = true) (hl : len f ≤ 1024) : uns h len name [f] = [] := by
  unfold uns badly
  rw [good_one, if_pos hf, if_neg (by omega)]
  simp [hf, nm_nil]
theorem uns_one_bad (f : α) (hf : h f = false) : uns h len name [f] = [name f] := by
  unfold uns badly
  have h0 : good h len [f] = 0 := by rw [good_one, hf]; rfl
  rw [h0, if_neg (by omega)]
  simp [hf, nm_one]
theorem uns_nil : uns h len name [] = [] := by
  unfold uns badly good
  simp [nm_nil]
theorem uns_all {l : List α} (hl : ∀ f, f ∈ l → h f = true) (hne : l ≠ []) : (uns h len name l = []) ↔ good h len l ≤ 1024 := by
  constructor
  · intro e
    rcases Nat.lt_or_ge 1024 (good h len l) with h1 | h1
    · obtain ⟨f, hf⟩ := List.exists_mem_of_ne_nil l hne
      have : name f ∈ uns h len name l := by
        rw [mem_uns]
        exact ⟨f, hf, rfl, .inr h1⟩
      rw [e] at this
      cases this
    · exact h1
  · intro hg
    refine List.eq_nil_iff_forall_not_mem.2 fun x hx => ?_
    obtain ⟨f, h1, _, h3⟩ := (mem_uns h len name x l).1 hx
    rcases h3 with h3 | h3
    · rw [hl f h1] at h3
      cases h3
    · omega
end
end Go.Proofs.YtikhboebmmmopaaGreatDoor.Plain
