/-
  PLAIN LAWS ON LISTS OF BYTES (no program in sight): what layer 9 (token) says, and what follows: names, values, trimming, letters, methods, parts. Conditions: none.
-/
namespace Go.Proofs.YtikhboebmmmopaaDoor.Plain

/-! ### 1. Bytes -/
def isBlank (c : UInt8) : Bool := c == 9 || c == 10 || c == 13 || c == 32
def isTab (c : UInt8) : Bool := c == 9 || c == 32
def isAlnum (c : UInt8) : Bool := (48 ≤ c && c ≤ 57) || (65 ≤ c && c ≤ 90) || (97 ≤ c && c ≤ 122)
def marks : List UInt8 := [33, 35, 36, 37, 38, 39, 42, 43, 45, 46, 94, 95, 96, 124, 126]
def isTok (c : UInt8) : Bool := isAlnum c || marks.contains c
def lowC (c : UInt8) : UInt8 := if 65 ≤ c && c ≤ 90 then c + 32 else c
def upC (c : UInt8) : UInt8 := if 97 ≤ c && c ≤ 122 then c - 32 else c
def isBad (c : UInt8) : Bool := c == 0 || c == 10 || c == 13

theorem all_bytes {p : UInt8 → Bool} (h : (List.range 256).all (fun n => p (UInt8.ofNat n)) = true) (c : UInt8) : p c = true := by
  have h1 := List.all_eq_true.1 h c.toNat (List.mem_range.2 (UInt8.toNat_lt c))
  rwa [UInt8.ofNat_toNat] at h1

theorem lowC_lowC (c : UInt8) : lowC (lowC c) = lowC c := by
  have := all_bytes (p := fun c => lowC (lowC c) == lowC c) (by decide +kernel) c
  simpa using this
theorem lowC_upC (c : UInt8) : lowC (upC c) = lowC c := by
  have := all_bytes (p := fun c => lowC (upC c) == lowC c) (by decide +kernel) c
  simpa using this
theorem upC_lowC (c : UInt8) : upC (lowC c) = upC c := by
  have := all_bytes (p := fun c => upC (lowC c) == upC c) (by decide +kernel) c
  simpa using this
theorem upC_upC (c : UInt8) : upC (upC c) = upC c := by
  have := all_bytes (p := fun c => upC (upC c) == upC c) (by decide +kernel) c
  simpa using this
theorem isTok_lowC (c : UInt8) : isTok (lowC c) = isTok c := by
  have := all_bytes (p := fun c => isTok (lowC c) == isTok c) (by decide +kernel) c
  simpa using this
theorem tok_not_blank (c : UInt8) (h : isTok c = true) : isBlank c = false := by
  have := all_bytes (p := fun c => !isTok c || !isBlank c) (by decide +kernel) c
  simpa [h] using this
theorem tok_not_bad (c : UInt8) (h : isTok c = true) : isBad c = false := by
  have := all_bytes (p := fun c => !isTok c || !isBad c) (by decide +kernel) c
  simpa [h] using this
theorem tok_not_tab (c : UInt8) (h : isTok c = true) : isTab c = false := by
  have := all_bytes (p := fun c => !isTok c || !isTab c) (by decide +kernel) c
  simpa [h] using this
theorem tok_not_sep (c : UInt8) (h : isTok c = true) : (c == 44) = false ∧ (c == 34) = false ∧ (c == 47) = false ∧ (c == 59) = false := by
  have := all_bytes (p := fun c => !isTok c || (!(c == 44) && !(c == 34) && !(c == 47) && !(c == 59))) (by decide +kernel) c
  simp only [h, Bool.not_true, Bool.false_or, Bool.and_eq_true, Bool.not_eq_true'] at this
  exact ⟨this.1.1.1, this.1.1.2, this.1.2, this.2⟩

/-! ### 2. Trimming -/
def trimP (p : UInt8 → Bool) (l : List UInt8) : List UInt8 := ((l.dropWhile p).reverse.dropWhile p).reverse

theorem dropWhile_id {p : UInt8 → Bool} : ∀ {l : List UInt8}, (∀ c, l.head? = some c → p c = false) → l.dropWhile p = l
  | [], _ => rfl
  | a :: r, h => by simp [List.dropWhile, h a rfl]
theorem dropWhile_head {p : UInt8 → Bool} : ∀ (l : List UInt8) c, (l.dropWhile p).head? = some c → p c = false
  | [], c, h => by simp at h
  | a :: r, c, h => by
    rw [List.dropWhile_cons] at h
    split at h
    · exact dropWhile_head r c h
    · rename_i hn
      simp only [List.head?_cons, Option.some.injEq] at h
      subst h
      simpa using hn
theorem dropWhile_append_all {p : UInt8 → Bool} : ∀ (a l : List UInt8), (∀ c ∈ a, p c = true) → (a ++ l).dropWhile p = l.dropWhile p
  | [], _, _ => rfl
  | c :: r, l, h => by
    rw [List.cons_append, List.dropWhile_cons, if_pos (h c (by simp))]
    exact dropWhile_append_all r l (fun d hd => h d (by simp [hd]))
theorem dropWhile_append_ne {p : UInt8 → Bool} : ∀ (l b : List UInt8), l.dropWhile p ≠ [] → (l ++ b).dropWhile p = l.dropWhile p ++ b
  | [], _, h => absurd rfl h
  | c :: r, b, h => by
    rw [List.dropWhile_cons] at h ⊢
    rw [List.cons_append, List.dropWhile_cons]
    split
    · rename_i hc
      rw [if_pos hc] at h
      exact dropWhile_append_ne r b h
    · rfl
theorem dropWhile_nil_iff {p : UInt8 → Bool} : ∀ (l : List UInt8), l.dropWhile p = [] ↔ ∀ c ∈ l, p c = true
  | [] => by simp
  | a :: r => by
    rw [List.dropWhile_cons]
    split
    · rename_i h
      rw [dropWhile_nil_iff r]
      simp [h]
    · rename_i h
      simp at h ⊢
      simp [h]
theorem dropWhile_length {p : UInt8 → Bool} : ∀ (l : List UInt8), (l.dropWhile p).length ≤ l.length
  | [] => Nat.le_refl _
  | a :: r => by
    rw [List.dropWhile_cons]
    split
    · exact Nat.le_succ_of_le (dropWhile_length r)
    · exact Nat.le_refl _
theorem dropWhile_mem {p : UInt8 → Bool} : ∀ (l : List UInt8) c, c ∈ l.dropWhile p → c ∈ l
  | [], _, h => h
  | a :: r, c, h => by
    rw [List.dropWhile_cons] at h
    split at h
    · exact List.mem_cons_of_mem _ (dropWhile_mem r c h)
    · exact h

/-- no byte of that kind at either end -/
def Ends (p : UInt8 → Bool) (l : List UInt8) : Prop := (∀ c, l.head? = some c → p c = false) ∧ (∀ c, l.reverse.head? = some c → p c = false)

theorem trimP_id {p : UInt8 → Bool} {l : List UInt8} (h : Ends p l) : trimP p l = l := by
  unfold trimP
  rw [dropWhile_id h.1, dropWhile_id h.2, List.reverse_reverse]
theorem trimP_ends (p : UInt8 → Bool) (l : List UInt8) : Ends p (trimP p l) := by
  unfold trimP
  refine ⟨fun c hc => ?_, fun c hc => ?_⟩
  · -- the head of what is left is the head of the first cut
    have hr : ∀ m : List UInt8, (∀ c, m.head? = some c → p c = false) → ∀ c, (m.reverse.dropWhile p).reverse.head? = some c → p c = false := by
      intro m hm c hc
      cases m with
      | nil => simp at hc
      | cons a r =>
        have ha : p a = false := hm a rfl
        have e : ((a :: r).reverse.dropWhile p) = r.reverse.dropWhile p ++ [a] ∨ ((a :: r).reverse.dropWhile p) = [a] := by
          rw [List.reverse_cons]
          by_cases h0 : r.reverse.dropWhile p = []
          · right
            rw [dropWhile_append_all _ _ ((dropWhile_nil_iff _).1 h0)]
            simp [List.dropWhile, ha]
          · left
            exact dropWhile_append_ne _ _ h0
        rcases e with e | e
        · rw [e] at hc
          simp at hc
          subst hc; exact ha
        · rw [e] at hc
          simp at hc
          subst hc; exact ha
    exact hr _ (dropWhile_head l) c hc
  · rw [List.reverse_reverse] at hc
    exact dropWhile_head _ c hc
theorem trimP_trimP (p : UInt8 → Bool) (l : List UInt8) : trimP p (trimP p l) = trimP p l := trimP_id (trimP_ends p l)
theorem trimP_length (p : UInt8 → Bool) (l : List UInt8) : (trimP p l).length ≤ l.length := by
  unfold trimP
  rw [List.length_reverse]
  refine Nat.le_trans (dropWhile_length _) ?_
  rw [List.length_reverse]
  exact dropWhile_length _
theorem trimP_mem {p : UInt8 → Bool} {l : List UInt8} {c : UInt8} (h : c ∈ trimP p l) : c ∈ l := by
  unfold trimP at h
  rw [List.mem_reverse] at h
  have := dropWhile_mem _ _ h
  rw [List.mem_reverse] at this
  exact dropWhile_mem _ _ this
theorem trimP_left {p : UInt8 → Bool} (a l : List UInt8) (h : ∀ c ∈ a, p c = true) : trimP p (a ++ l) = trimP p l := by
  unfold trimP
  rw [dropWhile_append_all _ _ h]
theorem trimP_right {p : UInt8 → Bool} (l b : List UInt8) (h : ∀ c ∈ b, p c = true) : trimP p (l ++ b) = trimP p l := by
  unfold trimP
  by_cases h0 : l.dropWhile p = []
  · have hl := (dropWhile_nil_iff l).1 h0
    rw [h0, dropWhile_append_all _ _ hl, (dropWhile_nil_iff b).2 h]
  · rw [dropWhile_append_ne _ _ h0, List.reverse_append]
    rw [dropWhile_append_all _ _ (fun c hc => h c (by simpa using hc))]
theorem trimP_nil (p : UInt8 → Bool) : trimP p [] = [] := rfl
theorem trimP_ne {p : UInt8 → Bool} {c : UInt8} {l : List UInt8} (hc : p c = true) : trimP p (c :: l) ≠ c :: l := by
  intro h
  have h1 := trimP_length p l
  have h2 : trimP p (c :: l) = trimP p l := trimP_left [c] l (by simpa using hc)
  have h3 := congrArg List.length h
  rw [h2, List.length_cons] at h3
  omega

/-! ### 3. Names, values, letters, methods -/
def nameB (l : List UInt8) : Bool := !l.isEmpty && l.all isTok
def trimB (l : List UInt8) : List UInt8 := trimP isBlank l
def valueB (l : List UInt8) : Bool := trimB l == l && !l.any isBad
def lower (l : List UInt8) : List UInt8 := l.map lowC
def upper (l : List UInt8) : List UInt8 := l.map upC
def foldB (a b : List UInt8) : Bool := lower a == lower b
def methods : List (List UInt8) := [[68, 69, 76, 69, 84, 69], [71, 69, 84], [72, 69, 65, 68], [79, 80, 84, 73, 79, 78, 83], [80, 79, 83, 84], [80, 85, 84]]
def nevers : List (List UInt8) := [[67, 79, 78, 78, 69, 67, 84], [84, 82, 65, 67, 69], [84, 82, 65, 67, 75]]
def method (l : List UInt8) : List UInt8 := if methods.contains (upper l) then upper l else l
def never (l : List UInt8) : Bool := nevers.contains (upper l)

theorem lower_lower (l : List UInt8) : lower (lower l) = lower l := by simp [lower, lowC_lowC]
theorem lower_upper (l : List UInt8) : lower (upper l) = lower l := by simp [lower, upper, lowC_upC]
theorem upper_lower (l : List UInt8) : upper (lower l) = upper l := by simp [lower, upper, upC_lowC]
theorem upper_upper (l : List UInt8) : upper (upper l) = upper l := by simp [upper, upC_upC]
theorem lower_length (l : List UInt8) : (lower l).length = l.length := by simp [lower]
theorem upper_length (l : List UInt8) : (upper l).length = l.length := by simp [upper]
theorem name_lower (l : List UInt8) : nameB (lower l) = nameB l := by
  unfold nameB lower
  rw [List.all_map]
  have : (isTok ∘ lowC) = isTok := by funext c; exact isTok_lowC c
  rw [this]
  cases l <;> rfl
theorem name_ends {l : List UInt8} (h : nameB l = true) (p : UInt8 → Bool) (hp : ∀ c, isTok c = true → p c = false) : Ends p l := by
  simp only [nameB, Bool.and_eq_true, List.all_eq_true] at h
  refine ⟨fun c hc => hp c (h.2 c ?_), fun c hc => hp c (h.2 c ?_)⟩
  · exact List.mem_of_mem_head? hc
  · have := List.mem_of_mem_head? hc
    rwa [List.mem_reverse] at this
theorem name_trim {l : List UInt8} (h : nameB l = true) : trimB l = l := trimP_id (name_ends h _ tok_not_blank)
theorem name_tab {l : List UInt8} (h : nameB l = true) : trimP isTab l = l := trimP_id (name_ends h _ tok_not_tab)
theorem name_value {l : List UInt8} (h : nameB l = true) : valueB l = true := by
  unfold valueB
  rw [name_trim h]
  simp only [nameB, Bool.and_eq_true, List.all_eq_true] at h
  simp only [beq_self_eq_true, Bool.true_and, Bool.not_eq_true', List.any_eq_false]
  intro c hc
  simp [tok_not_bad c (h.2 c hc)]
theorem methods_upper : ∀ m ∈ methods, upper m = m := by decide +kernel
theorem method_method (l : List UInt8) : method (method l) = method l := by
  unfold method
  by_cases h : methods.contains (upper l) = true
  · rw [if_pos h, upper_upper, if_pos h]
  · rw [if_neg h, if_neg h]
theorem lower_method (l : List UInt8) : lower (method l) = lower l := by
  unfold method
  split
  · exact lower_upper l
  · rfl
theorem never_lower (l : List UInt8) : never (lower l) = never l := by unfold never; rw [upper_lower]
theorem lower_eq_upper (a b : List UInt8) : (lower a = lower b) ↔ (upper a = upper b) := by
  constructor
  · intro h
    rw [← upper_lower a, h, upper_lower]
  · intro h
    rw [← lower_upper a, h, lower_upper]
theorem never_fold (l : List UInt8) : nevers.any (fun m => foldB l m) = never l := by
  unfold never
  have e : ∀ m ∈ nevers, foldB l m = (upper l == m) := by
    intro m hm
    have hu : upper m = m := by revert m; decide +kernel
    unfold foldB
    rw [Bool.eq_iff_iff]
    simp only [beq_iff_eq]
    rw [lower_eq_upper, hu]
  rw [Bool.eq_iff_iff]
  simp only [List.any_eq_true, List.contains_iff_mem]
  constructor
  · rintro ⟨m, hm, h⟩
    rw [e m hm, beq_iff_eq] at h
    rw [h]; exact hm
  · intro h
    exact ⟨upper l, h, by rw [e _ h]; simp⟩

/-! ### 4. Parts: a machine of three states: 0 outside of quotes, 1 in quotes, 2 behind a backslash in quotes -/
def next (st : Nat) (c : UInt8) : Nat := if st = 0 then (if c == 34 then 1 else 0) else if st = 1 then (if c == 92 then 2 else if c == 34 then 0 else 1) else 1
def partsGo : Nat → List UInt8 → List UInt8 → List (List UInt8)
  | _, cur, [] => [trimP isTab cur.reverse]
  | st, cur, c :: r => if st = 0 ∧ (c == 44) = true then trimP isTab cur.reverse :: partsGo 0 [] r else partsGo (next st c) (c :: cur) r
def parts (l : List UInt8) : List (List UInt8) := partsGo 0 [] l

theorem partsGo_ne (st : Nat) (cur l : List UInt8) : partsGo st cur l ≠ [] := by
  induction l generalizing st cur with
  | nil => simp [partsGo]
  | cons c r ih =>
    rw [partsGo]
    split
    · simp
    · exact ih _ _
/-- a stretch without commas and quotes, outside of quotes -/
theorem partsGo_plain (a : List UInt8) (h : ∀ c ∈ a, (c == 44) = false ∧ (c == 34) = false) (cur r : List UInt8) : partsGo 0 cur (a ++ r) = partsGo 0 (a.reverse ++ cur) r := by
  induction a generalizing cur with
  | nil => rfl
  | cons c a ih =>
    have hc := h c (by simp)
    rw [List.cons_append, partsGo, if_neg (by simp [hc.1])]
    have hn : next 0 c = 0 := by simp [next, hc.2]
    rw [hn, ih (fun d hd => h d (by simp [hd]))]
    simp
theorem partsGo_comma (cur r : List UInt8) : partsGo 0 cur (44 :: r) = trimP isTab cur.reverse :: partsGo 0 [] r := by
  rw [partsGo, if_pos (by simp)]
/-- a stretch without quotes and backslashes, in quotes -/
theorem partsGo_quoted (a : List UInt8) (h : ∀ c ∈ a, (c == 34) = false ∧ (c == 92) = false) (cur r : List UInt8) : partsGo 1 cur (a ++ r) = partsGo 1 (a.reverse ++ cur) r := by
  induction a generalizing cur with
  | nil => rfl
  | cons c a ih =>
    have hc := h c (by simp)
    rw [List.cons_append, partsGo, if_neg (by simp)]
    have hn : next 1 c = 1 := by simp [next, hc.1, hc.2]
    rw [hn, ih (fun d hd => h d (by simp [hd]))]
    simp
/-- one piece more, behind a text without quotes -/
theorem partsGo_snoc (s : List UInt8) (h : ∀ c ∈ s, (c == 34) = false) (t : List UInt8) (ht : ∀ c ∈ t, (c == 44) = false ∧ (c == 34) = false) (cur : List UInt8) :
    partsGo 0 cur (s ++ 44 :: t) = partsGo 0 cur s ++ [trimP isTab t] := by
  induction s generalizing cur with
  | nil =>
    rw [List.nil_append, partsGo_comma]
    have := partsGo_plain t ht [] []
    rw [List.append_nil] at this
    rw [this]
    simp [partsGo]
  | cons c s ih =>
    have hc := h c (by simp)
    have h' : ∀ d ∈ s, (d == 34) = false := fun d hd => h d (by simp [hd])
    by_cases h44 : (c == 44) = true
    · obtain rfl : c = 44 := by simpa using h44
      rw [List.cons_append, partsGo_comma, partsGo_comma, ih h', List.cons_append]
    · have hn : next 0 c = 0 := by simp [next, hc]
      rw [List.cons_append, partsGo, if_neg (by simp [h44]), hn, ih h', partsGo, if_neg (by simp [h44]), hn]
theorem parts_one {t : List UInt8} (ht : ∀ c ∈ t, (c == 44) = false ∧ (c == 34) = false) : parts t = [trimP isTab t] := by
  have := partsGo_plain t ht [] []
  rw [List.append_nil] at this
  unfold parts
  rw [this]
  simp [partsGo]
theorem parts_snoc {s t : List UInt8} (h : ∀ c ∈ s, (c == 34) = false) (ht : ∀ c ∈ t, (c == 44) = false ∧ (c == 34) = false) : parts (s ++ 44 :: t) = parts s ++ [trimP isTab t] := partsGo_snoc s h t ht []

/-- how many commas -/
def commas (l : List UInt8) : Nat := (l.filter (· == 44)).length
theorem partsGo_length (s : List UInt8) (h : ∀ c ∈ s, (c == 34) = false) (cur : List UInt8) : (partsGo 0 cur s).length = commas s + 1 := by
  induction s generalizing cur with
  | nil => simp [partsGo, commas]
  | cons c s ih =>
    have hc := h c (by simp)
    have h' : ∀ d ∈ s, (d == 34) = false := fun d hd => h d (by simp [hd])
    by_cases h44 : (c == 44) = true
    · obtain rfl : c = 44 := by simpa using h44
      rw [partsGo_comma, List.length_cons, ih h']
      simp [commas]
    · have hn : next 0 c = 0 := by simp [next, hc]
      rw [partsGo, if_neg (by simp [h44]), hn, ih h']
      simp [commas, h44]
/-- each part of a text without quotes: no comma, no quote, trimmed -/
theorem partsGo_pieces (s : List UInt8) (h : ∀ c ∈ s, (c == 34) = false) (cur : List UInt8) (hcur : ∀ c ∈ cur, (c == 44) = false ∧ (c == 34) = false) :
    ∀ x ∈ partsGo 0 cur s, (∀ c ∈ x, (c == 44) = false ∧ (c == 34) = false) ∧ trimP isTab x = x := by
  induction s generalizing cur with
  | nil =>
    intro x hx
    simp only [partsGo, List.mem_singleton] at hx
    subst hx
    exact ⟨fun c hc => hcur c (by simpa using trimP_mem hc), trimP_trimP _ _⟩
  | cons c s ih =>
    have hc := h c (by simp)
    have h' : ∀ d ∈ s, (d == 34) = false := fun d hd => h d (by simp [hd])
    intro x hx
    by_cases h44 : (c == 44) = true
    · obtain rfl : c = 44 := by simpa using h44
      rw [partsGo_comma] at hx
      rcases List.mem_cons.1 hx with rfl | hx
      · exact ⟨fun c hc => hcur c (by simpa using trimP_mem hc), trimP_trimP _ _⟩
      · exact ih h' [] (by simp) x hx
    · have hn : next 0 c = 0 := by simp [next, hc]
      rw [partsGo, if_neg (by simp [h44]), hn] at hx
      exact ih h' (c :: cur) (by
        intro d hd
        rcases List.mem_cons.1 hd with rfl | hd
        · exact ⟨by simpa using h44, hc⟩
        · exact hcur d hd) x hx
/-- put together with commas -/
def joinC : List (List UInt8) → List UInt8
  | [] => []
  | [x] => x
  | x :: y :: r => x ++ 44 :: joinC (y :: r)
theorem joinC_snoc (l : List (List UInt8)) (x : List UInt8) (h : l ≠ []) : joinC (l ++ [x]) = joinC l ++ 44 :: x := by
  induction l with
  | nil => exact absurd rfl h
  | cons a l ih =>
    cases l with
    | nil => rfl
    | cons b r =>
      have := ih (by simp)
      simp only [List.cons_append, joinC, List.append_assoc] at this ⊢
      rw [this]
theorem parts_joinC (l : List (List UInt8)) (hne : l ≠ []) (h : ∀ x ∈ l, (∀ c ∈ x, (c == 44) = false ∧ (c == 34) = false) ∧ trimP isTab x = x) : parts (joinC l) = l := by
  induction l with
  | nil => exact absurd rfl hne
  | cons a l ih =>
    obtain ⟨ha, ta⟩ := h a (by simp)
    cases l with
    | nil => rw [joinC, parts_one ha, ta]
    | cons b r =>
      have := ih (by simp) (fun x hx => h x (by simp [hx]))
      rw [joinC]
      unfold parts at this ⊢
      rw [partsGo_plain a ha, partsGo_comma, this]
      simp [ta]
theorem parts_again {s : List UInt8} (h : ∀ c ∈ s, (c == 34) = false) : parts (joinC (parts s)) = parts s :=
  parts_joinC _ (partsGo_ne _ _ _) (partsGo_pieces s h [] (by simp))
theorem parts_count {s : List UInt8} (h : ∀ c ∈ s, (c == 34) = false) : (parts s).length = commas s + 1 := partsGo_length s h []

/-- what stands in quotes is one part -/
theorem parts_quoted {s : List UInt8} (h : ∀ c ∈ s, (c == 34) = false ∧ (c == 92) = false) : parts (34 :: (s ++ [34])) = [34 :: (s ++ [34])] := by
  unfold parts
  rw [partsGo, if_neg (by decide)]
  have h1 : next 0 34 = 1 := by decide
  rw [h1, partsGo_quoted s h, partsGo, if_neg (by simp)]
  simp only [partsGo, List.reverse_cons, List.reverse_append, List.reverse_reverse, List.reverse_nil, List.nil_append, List.cons_append]
  congr 1
  refine trimP_id ⟨fun c hc => ?_, fun c hc => ?_⟩
  · simp at hc; subst hc; decide
  · simp at hc; subst hc; decide
theorem parts_open {s : List UInt8} (h : ∀ c ∈ s, (c == 34) = false ∧ (c == 92) = false) : (parts (34 :: s)).length = 1 := by
  unfold parts
  rw [partsGo, if_neg (by decide)]
  have h1 : next 0 34 = 1 := by decide
  have h2 := partsGo_quoted s h [34] []
  rw [List.append_nil] at h2
  rw [h1, h2]
  rfl
theorem parts_behind {s name : List UInt8} (h : ∀ c ∈ s, (c == 34) = false ∧ (c == 92) = false) (hn : nameB name = true) : parts (34 :: (s ++ 34 :: 44 :: name)) = [34 :: (s ++ [34]), name] := by
  have hq := parts_quoted h
  unfold parts at hq ⊢
  have h1 : next 0 34 = 1 := by decide
  have h2 : next 1 34 = 0 := by decide
  rw [partsGo, if_neg (by decide), h1, partsGo_quoted s h, partsGo, if_neg (by simp), h2] at hq ⊢
  rw [partsGo_comma]
  rw [partsGo] at hq
  have ht : ∀ c ∈ name, (c == 44) = false ∧ (c == 34) = false := fun c hc => by
    simp only [nameB, Bool.and_eq_true, List.all_eq_true] at hn
    exact ⟨(tok_not_sep c (hn.2 c hc)).1, (tok_not_sep c (hn.2 c hc)).2.1⟩
  have := parts_one ht
  unfold parts at this
  rw [this, name_tab hn]
  rw [List.cons.injEq] at hq
  rw [hq.1]
end Go.Proofs.YtikhboebmmmopaaDoor.Plain
