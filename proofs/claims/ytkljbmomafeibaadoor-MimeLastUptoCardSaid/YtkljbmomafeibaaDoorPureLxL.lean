/-
  THE PLAIN LAW of MimeLast: what the printed law computes is true. Condition: sizes of at most 1048576.
-/
import Derived.Test.YtkljbmomafeibaaDoorPureM2xL
import Derived.Test.YtkljbmomafeibaaDoorFunLxL
namespace Go.Proofs.YtkljbmomafeibaaDoor.Plain
theorem trimP_split (p : UInt8 → Bool) (l : List UInt8) : ∃ a b, l = a ++ trimP p l ++ b ∧ (∀ c ∈ a, p c = true) ∧ (∀ c ∈ b, p c = true) := by
  have all : ∀ (m : List UInt8), ∀ c ∈ m.takeWhile p, p c = true := fun m c hc => List.all_eq_true.1 List.all_takeWhile c hc
  refine ⟨l.takeWhile p, ((l.dropWhile p).reverse.takeWhile p).reverse, ?_, all l, fun c hc => all _ c (List.mem_reverse.1 hc)⟩
  have h1 : l.dropWhile p = trimP p l ++ ((l.dropWhile p).reverse.takeWhile p).reverse := by
    unfold trimP
    rw [← List.reverse_append, List.takeWhile_append_dropWhile, List.reverse_reverse]
  rw [List.append_assoc, ← h1, List.takeWhile_append_dropWhile]
theorem upTo_left (a s : List UInt8) (h : (59 : UInt8) ∉ a) : upTo 59 (a ++ s) = a ++ upTo 59 s := by
  unfold upTo
  rw [List.takeWhile_append_of_pos]
  intro c hc
  simp only [bne_iff_ne, ne_eq]
  rintro rfl
  exact h hc
theorem tab_blank (c : UInt8) (h : isTab c = true) : isBlank c = true := by
  have := all_bytes (p := fun c => !isTab c || isBlank c) (by decide +kernel) c
  simpa [h] using this
theorem tab_semi {b : List UInt8} (h : ∀ c ∈ b, isTab c = true) : (59 : UInt8) ∉ b := by
  intro hc
  have := h _ hc
  revert this
  decide
theorem ess_trim (s : List UInt8) : essence (trimP isTab s) = essence s := by
  obtain ⟨a, b, h, ha, hb⟩ := trimP_split isTab s
  obtain ⟨m, hm⟩ : ∃ m, m = trimP isTab s := ⟨_, rfl⟩
  rw [← hm] at h ⊢
  have key : trimB (upTo 59 s) = trimB (upTo 59 m) := by
    rw [h, List.append_assoc, upTo_left a _ (tab_semi ha)]
    unfold trimB
    rw [trimP_left _ _ (fun c hc => tab_blank c (ha c hc))]
    by_cases h59 : (59 : UInt8) ∈ m
    · obtain ⟨h1, h2⟩ := split_at 59 m h59
      have e1 : upTo 59 (m ++ b) = upTo 59 m := by
        conv => lhs; rw [h1, List.append_assoc, List.cons_append]
        exact upTo_at 59 _ _ h2
      rw [e1]
    · rw [upTo_left m b h59, upTo_none 59 b (tab_semi hb), upTo_none 59 m h59, trimP_right _ _ (fun c hc => tab_blank c (hb c hc))]
  unfold essence
  rw [key]
theorem counts_trim (s : List UInt8) : counts (trimP isTab s) = counts s := by
  unfold counts
  rw [ess_trim]
end Go.Proofs.YtkljbmomafeibaaDoor.Plain
namespace Go.Proofs.YtkljbmomafeibaaDoor.Pure
open Go.RowKit Go.Proofs.YtkljbmomafeibaaDoorW.PrintWords
open Go.Proofs.YtkljbmomafeibaaDoor.Ext (txt Big)
open Go.Proofs.YtkljbmomafeibaaDoor.Fun
open Go.Proofs.YtkljbmomafeibaaDoor.Plain (upTo past essence counts lastOf)

/-! ### quoted -/
def quotedP (l : List UInt8) : Bool := l.any fun c => c == 44 || c == 34
theorem quoted_l0 (s : ByteArray) (hs : s.size ≤ 4611686018427387904) (d : Nat) : ∀ (k i : Nat), s.size - i = d → i ≤ s.size → d < k → transeptlaw11_quoted.l0 k s (i : Int) = some (quotedP (s.data.toList.drop i)) := by
  have hl := len_eq s
  induction d with
  | zero =>
    intro k i hd hi hk
    obtain ⟨k, rfl⟩ : ∃ m, k = m + 1 := ⟨k - 1, by omega⟩
    simp only [transeptlaw11_quoted.l0]
    rw [if_neg (by omega), drop_end (by omega)]
    rfl
  | succ d ih =>
    intro k i hd hi hk
    obtain ⟨k, rfl⟩ : ∃ m, k = m + 1 := ⟨k - 1, by omega⟩
    have hli : i < s.data.toList.length := by omega
    obtain ⟨c, hc⟩ : ∃ c, c = s.data.toList[i] := ⟨_, rfl⟩
    have e34 : ((c.toNat : Int) = 34) ↔ c = 34 := by
      rw [← UInt8.toNat_inj]
      show _ ↔ _ = 34
      omega
    have e44 : ((c.toNat : Int) = 44) ↔ c = 44 := by
      rw [← UInt8.toNat_inj]
      show _ ↔ _ = 44
      omega
    have hb := bt_nat s i hli
    rw [← hc] at hb
    have hq : quotedP (s.data.toList.drop i) = ((c == 44 || c == 34) || quotedP (s.data.toList.drop (i + 1))) := by
      rw [drop_cons hli, ← hc]
      rfl
    have hih := ih k (i + 1) (by omega) (by omega) (by omega)
    rw [hq]
    simp only [transeptlaw11_quoted.l0]
    rw [if_pos (by omega), if_pos (by omega), hb, wrap_in (by omega) (by omega), show ((i : Int) + 1) = ((i + 1 : Nat) : Int) from by omega, hih]
    by_cases h44 : c = 44
    · rw [if_pos (e44.2 h44), h44]
      rfl
    · rw [if_neg (fun h => h44 (e44.1 h))]
      by_cases h34 : c = 34
      · rw [if_pos (e34.2 h34), h34]
        rfl
      · rw [if_neg (fun h => h34 (e34.1 h))]
        simp [h44, h34]
theorem quotedp_f (s : ByteArray) (hs : s.size ≤ 4611686018427387904) (k : Nat) (hk : s.size < k) : transeptlaw11_quoted.f k s = some (quotedP s.data.toList) := by
  unfold transeptlaw11_quoted.f
  rw [show (0 : Int) = ((0 : Nat) : Int) from rfl, quoted_l0 s hs s.size k 0 (by omega) (by omega) hk, List.drop_zero]
theorem quotedP_no {l : List UInt8} (h : quotedP l = false) : ∀ c ∈ l, (c == 44) = false ∧ (c == 34) = false := by
  intro c hc
  have := List.any_eq_false.1 h c hc
  simpa using this

/-! ### what is joined, cut again -/
theorem joined_snoc (vs : List ByteArray) (v : ByteArray) (hne : vs ≠ []) : joined (vs ++ [v]) = joined vs ++ [44, 32] ++ v.data.toList := by
  rw [← glue_join, ← glue_join]
  have go : ∀ (vs : List ByteArray) (b : Bool), vs ≠ [] → glue b (vs ++ [v]) = glue b vs ++ [44, 32] ++ v.data.toList := by
    intro vs
    induction vs with
    | nil => intro b h; exact absurd rfl h
    | cons x r ih =>
      intro b _
      cases r with
      | nil => simp [glue]
      | cons y r =>
        rw [List.cons_append, glue, glue, ih false (by simp)]
        simp
  exact go vs true hne
theorem parts_joined : ∀ (vs : List ByteArray), vs ≠ [] → (∀ v ∈ vs, quotedP v.data.toList = false) → Plain.parts (joined vs) = vs.map (fun v => Plain.trimP Plain.isTab v.data.toList) ∧ ∀ c ∈ joined vs, (c == 34) = false := by
  intro vs
  obtain ⟨n, hn⟩ : ∃ n, n = vs.length := ⟨_, rfl⟩
  induction n generalizing vs with
  | zero =>
    intro hne _
    exact absurd (List.length_eq_zero_iff.1 hn.symm) hne
  | succ n ih =>
    intro hne hq
    obtain ⟨ws, v, rfl⟩ : ∃ ws v, vs = ws ++ [v] := by
      rcases List.eq_nil_or_concat vs with rfl | ⟨ws, v, h⟩
      · exact absurd rfl hne
      · exact ⟨ws, v, by rw [h, List.concat_eq_append]⟩
    have hv := quotedP_no (hq v (by simp))
    by_cases hw : ws = []
    · subst hw
      have e : joined ([] ++ [v]) = v.data.toList := by rw [← glue_join]; simp [glue]
      rw [e]
      refine ⟨?_, fun c hc => (hv c hc).2⟩
      rw [Plain.parts_one hv]
      rfl
    · obtain ⟨h1, h2⟩ := ih ws (by rw [List.length_append] at hn; simp only [List.length_cons, List.length_nil] at hn; omega) hw (fun x hx => hq x (List.mem_append.2 (.inl hx)))
      rw [joined_snoc ws v hw]
      have e : joined ws ++ [44, 32] ++ v.data.toList = joined ws ++ 44 :: (32 :: v.data.toList) := by simp
      have ht : ∀ c ∈ (32 : UInt8) :: v.data.toList, (c == 44) = false ∧ (c == 34) = false := by
        intro c hc
        rcases List.mem_cons.1 hc with rfl | hc
        · decide
        · exact hv c hc
      rw [e]
      refine ⟨?_, ?_⟩
      · rw [Plain.parts_snoc h2 ht, h1, List.map_append]
        congr 2
      · intro c hc
        rcases List.mem_append.1 hc with hc | hc
        · exact h2 c hc
        · rcases List.mem_cons.1 hc with rfl | hc
          · decide
          · exact (ht c hc).2
def ct : List UInt8 := [99, 111, 110, 116, 101, 110, 116, 45, 116, 121, 112, 101]
theorem splitP_plain {l : List S35} (hq : ∀ f ∈ l, quotedP f.f1.data.toList = false) : splitP l ct = (sel l ct).map (fun v => Plain.trimP Plain.isTab v.data.toList) := by
  unfold splitP
  by_cases h : 0 < (sel l ct).length
  · rw [if_pos h]
    exact (parts_joined _ (List.length_pos_iff.1 h) (fun v hv => by obtain ⟨f, hf, rfl⟩ := sel_mem hv; exact hq f hf)).1
  · rw [if_neg h, List.length_eq_zero_iff.1 (by omega : (sel l ct).length = 0)]
    rfl
theorem last_snoc {l : List S35} (hq : ∀ f ∈ l, quotedP f.f1.data.toList = false) (f : S35) (hn : Plain.foldB f.f0.data.toList ct = true) (hf : quotedP f.f1.data.toList = false) :
    lastL (splitP (l ++ [f]) ct) = (counts f.f1.data.toList).getD (lastL (splitP l ct)) := by
  have hq' : ∀ g ∈ l ++ [f], quotedP g.f1.data.toList = false := by
    intro g hg
    rcases List.mem_append.1 hg with hg | hg
    · exact hq g hg
    · rw [List.mem_singleton.1 hg]; exact hf
  have e : sel (l ++ [f]) ct = sel l ct ++ [f.f1] := by
    unfold sel
    rw [List.filter_append, List.map_append]
    congr 1
    simp [hn]
  rw [splitP_plain hq', splitP_plain hq, e, List.map_append]
  unfold lastL
  rw [List.map_singleton, Plain.lastOf_snoc, Plain.counts_trim]
  cases counts f.f1.data.toList <;> rfl
theorem Fits.snoc {l : List S35} (h : Fits l) (hl : l.length < 1048576) (f : S35) (h0 : f.f0.size ≤ 1048577) (h1 : f.f1.size ≤ 1048577) : Fits (l ++ [f]) :=
  ⟨by rw [List.length_append]; simp only [List.length_cons, List.length_nil]; omega, fun g hg => by rcases List.mem_append.1 hg with hg | hg; exact h.name g hg; rw [List.mem_singleton.1 hg]; exact h0,
   fun g hg => by rcases List.mem_append.1 hg with hg | hg; exact h.value g hg; rw [List.mem_singleton.1 hg]; exact h1⟩

/-! ### the law -/
theorem mlast_j1 {l : List S35} (h : Fits l) (hl : l.length ≤ 50) (hq : ∀ f ∈ l, quotedP f.f1.data.toList = false) (s m : ByteArray) (hs : s.size ≤ 1048576) (hm : m.size ≤ 1048576) (q : Bool) (hqs : q = false → quotedP s.data.toList = false ∧ quotedP m.data.toList = false) (k : Nat) (hk : 3000000000000 < k) :
    transeptlaw11_MimeLast.j1 (k + 1) l s m true q = some true := by
  simp only [transeptlaw11_MimeLast.j1]
  cases q with
  | true => rfl
  | false =>
    obtain ⟨hqs1, hqs2⟩ := hqs rfl
    rw [if_neg (by decide), essence_f s (by omega), essence_f m (by omega), of_f h k hk]
    simp only [Option.bind_some, List.nil_append, List.length_nil]
    have F1 := Fits.snoc h (by omega) ⟨⟨#[67, 79, 78, 84, 69, 78, 84, 45, 116, 121, 112, 101]⟩, s⟩ (by show (12 : Nat) ≤ _; omega) (by show s.size ≤ _; omega)
    have F2 := Fits.snoc h (by omega) ⟨⟨#[99, 111, 110, 116, 101, 110, 116, 45, 116, 121, 112, 101]⟩, m⟩ (by show (12 : Nat) ≤ _; omega) (by show m.size ≤ _; omega)
    rw [if_pos (by omega), if_pos (by omega), of_f F1 k hk, of_f F2 k hk]
    simp only [Option.bind_some, ftl]
    rw [if_pos (by omega), if_pos (by omega)]
    have e1 := last_snoc hq ⟨⟨#[67, 79, 78, 84, 69, 78, 84, 45, 116, 121, 112, 101]⟩, s⟩ (by show Plain.foldB (⟨#[67, 79, 78, 84, 69, 78, 84, 45, 116, 121, 112, 101]⟩ : ByteArray).data.toList ct = true; decide +kernel) hqs1
    have e2 := last_snoc hq ⟨⟨#[99, 111, 110, 116, 101, 110, 116, 45, 116, 121, 112, 101]⟩, m⟩ (by show Plain.foldB (⟨#[99, 111, 110, 116, 101, 110, 116, 45, 116, 121, 112, 101]⟩ : ByteArray).data.toList ct = true; decide +kernel) hqs2
    simp only [ct] at e1 e2
    rw [e1, e2]
    generalize lastL (splitP l [99, 111, 110, 116, 101, 110, 116, 45, 116, 121, 112, 101]) = was
    have hend : (if (essT m.data.toList).2 = true then some true else if ((counts m.data.toList).getD was) = was then some ((((counts m.data.toList).getD was) != []) == (was != [])) else some false) = some true := by
      cases he : essence m.data.toList with
      | some e => rw [essT_some he]; rfl
      | none =>
        have hc : counts m.data.toList = none := by unfold Plain.counts; rw [he]
        rw [essT_none he, hc]
        simp
    rw [hend]
    cases he : essence s.data.toList with
    | none => rw [essT_none he]; rfl
    | some e =>
      have hne := Plain.essence_ne he
      rw [essT_some he]
      simp only [if_true, ftl]
      by_cases hst : e = [42, 47, 42]
      · rw [if_pos hst]
      · have hc : counts s.data.toList = some e := by unfold Plain.counts; rw [he]; simp [hst]
        rw [if_neg hst, hc]
        simp [hne]
theorem mlast_l0 {l : List S35} (h : Fits l) (hl : l.length ≤ 50) (s m : ByteArray) (hs : s.size ≤ 1048576) (hm : m.size ≤ 1048576) (d : Nat) : ∀ (k i : Nat), l.length - i = d → i ≤ l.length → d + 3000000000010 < k → (∀ f ∈ l.take i, quotedP f.f1.data.toList = false) →
    transeptlaw11_MimeLast.l0 k l s m true (i : Int) = some true := by
  induction d with
  | zero =>
    intro k i hd hi hk hq
    obtain ⟨k, rfl⟩ : ∃ m, k = m + 2 := ⟨k - 2, by omega⟩
    rw [List.take_of_length_le (by omega)] at hq
    simp only [transeptlaw11_MimeLast.l0]
    rw [if_neg (by omega), quotedp_f s (by omega) (k + 1) (by omega), quotedp_f m (by omega) (k + 1) (by omega)]
    simp only [Option.bind_some]
    cases hqs : quotedP s.data.toList with
    | true =>
      rw [if_pos rfl]
      exact mlast_j1 h hl hq s m hs hm true (fun e => by cases e) k (by omega)
    | false =>
      rw [if_neg (by decide)]
      exact mlast_j1 h hl hq s m hs hm _ (fun e => ⟨hqs, e⟩) k (by omega)
  | succ d ih =>
    intro k i hd hi hk hq
    obtain ⟨k, rfl⟩ : ∃ m, k = m + 1 := ⟨k - 1, by omega⟩
    have hli : i < l.length := by omega
    have hv := h.value l[i] (List.getElem_mem hli)
    simp only [transeptlaw11_MimeLast.l0]
    rw [if_pos (by omega), if_pos (by omega), rd_F l i hli, quotedp_f _ (by omega) k (by omega), wrap_in (by omega) (by omega), show ((i : Int) + 1) = ((i + 1 : Nat) : Int) from by omega]
    simp only [Option.bind_some]
    cases hqi : quotedP l[i].f1.data.toList with
    | true => rw [if_pos rfl]
    | false =>
      rw [if_neg (by decide)]
      refine ih k (i + 1) (by omega) (by omega) (by omega) ?_
      rw [List.take_succ_eq_append_getElem hli]
      intro f hf
      rcases List.mem_append.1 hf with hf | hf
      · exact hq f hf
      · rw [List.mem_singleton.1 hf]; exact hqi
theorem mn_50 (n : Nat) : mn (n : Int) 50 = ((min n 50 : Nat) : Int) := by
  unfold mn
  split <;> omega
theorem MimeLast (l0 : List S35) (a1 a2 : ByteArray) (h0 : l0.length ≤ 1048576 ∧ ∀ s ∈ l0, s.f0.size ≤ 1048576 ∧ s.f1.size ≤ 1048576) (h1 : a1.size ≤ 1048576) (h2 : a2.size ≤ 1048576) : ∃ k, transeptlaw11_MimeLast.f k l0 a1 a2 = some true := by
  obtain ⟨k, hk⟩ : ∃ k : Nat, 4000000000000 < k := ⟨_, Nat.lt_succ_self _⟩
  refine ⟨k, ?_⟩
  have hF : Fits l0 := ⟨h0.1, fun f hf => by have := (h0.2 f hf).1; omega, fun f hf => by have := (h0.2 f hf).2; omega⟩
  have hT := Fits.take hF (min l0.length 50)
  unfold transeptlaw11_MimeLast.f
  rw [shown_f _ (by omega)]
  simp only [Option.bind_some, List.nil_append, List.length_nil]
  rw [mn_50, if_pos (by omega), if_pos (by omega), Int.toNat_natCast, if_pos (by rw [List.length_take]; omega)]
  have hlen : (l0.take (min l0.length 50)).length ≤ 50 := by rw [List.length_take]; omega
  have := mlast_l0 hT hlen a1 a2 h1 h2 _ k 0 rfl (by omega) (by omega) (by simp)
  exact this
end Go.Proofs.YtkljbmomafeibaaDoor.Pure
