/-
  THE PLAIN LAW of CorsLetters: what the printed law computes is true. Condition: sizes of at most 1048576.
-/
import Derived.Test.YtaabfmpoodjhjaaDoorPureK2xA
import Derived.Test.YtaabfmpoodjhjaaDoorFunWLettersxA
namespace Go.Proofs.YtaabfmpoodjhjaaDoor.Pure
open Go.RowKit Go.Proofs.YtaabfmpoodjhjaaDoorW.PrintWords
open Go.Proofs.YtaabfmpoodjhjaaDoor.Ext (txt Big)
open Go.Proofs.YtaabfmpoodjhjaaDoor.Fun
theorem fits_letters {l : List S40} (h : l.length ≤ 1048576 ∧ ∀ s ∈ l, s.f0.size ≤ 1048576 ∧ s.f1.size ≤ 1048576) : Fits l := ⟨h.1, fun f hf => by have := (h.2 f hf).1; omega, fun f hf => by have := (h.2 f hf).2; omega⟩
def lowF (f : S40) : S40 := ⟨txt (Plain.lower f.f0.data.toList), f.f1⟩
theorem fits_low {l : List S40} (h : Fits l) : Fits (l.map lowF) := by
  refine ⟨by rw [List.length_map]; exact h.len, fun f hf => ?_, fun f hf => ?_⟩
  · obtain ⟨g, hg, rfl⟩ := List.mem_map.1 hf
    have := h.name g hg
    show (txt (Plain.lower g.f0.data.toList)).size ≤ _
    rw [Ext.txt_size, Plain.lower_length, len_eq]
    exact this
  · obtain ⟨g, hg, rfl⟩ := List.mem_map.1 hf
    exact h.value g hg
theorem fold_lower (a b : List UInt8) : Plain.foldB (Plain.lower a) b = Plain.foldB a b := by unfold Plain.foldB; rw [Plain.lower_lower]
theorem fold_lower2 (a b : List UInt8) : Plain.foldB a (Plain.lower b) = Plain.foldB a b := by unfold Plain.foldB; rw [Plain.lower_lower]
theorem sel_low (l : List S40) (n : List UInt8) : sel (l.map lowF) n = sel l n := by
  unfold sel
  rw [List.filter_map, List.map_map]
  have e : ((fun f : S40 => Plain.foldB f.f0.data.toList n) ∘ lowF) = fun f => Plain.foldB f.f0.data.toList n := by
    funext f
    show Plain.foldB (txt (Plain.lower f.f0.data.toList)).data.toList n = _
    rw [Ext.txt_data, fold_lower]
  rw [e]
  rfl
theorem only_low (l : List S40) (n : List UInt8) : onlyP (l.map lowF) n = onlyP l n := by unfold onlyP; rw [sel_low]
theorem list_low (l : List S40) (n : List UInt8) : listP (l.map lowF) n = listP l n := by unfold listP splitP; rw [sel_low]
theorem check_low (l : List S40) (o : List UInt8) (cred : Bool) : checkP (l.map lowF) o cred = checkP l o cred := by unfold checkP; rw [only_low, only_low]
theorem age_low (l : List S40) : ageP (l.map lowF) = ageP l := by unfold ageP; rw [only_low]
theorem folded_low (ns : List (List UInt8)) (s : List UInt8) : foldedP ns (Plain.lower s) = foldedP ns s := by
  unfold foldedP
  congr 1
  funext x
  exact fold_lower2 x s
theorem header_low (ns : List (List UInt8)) (cred : Bool) (s : List UInt8) : headerP ns cred (Plain.lower s) = headerP ns cred s := by unfold headerP; rw [folded_low, fold_lower]
theorem exposes_low (s : List UInt8) (cred : Bool) (l : List S40) : exposesP (Plain.lower s) cred (l.map lowF) = exposesP s cred l := by
  unfold exposesP hiddenP readsP
  rw [list_low, folded_low, Plain.lower_lower]
theorem exposes_less {s : List UInt8} {l : List S40} (h : exposesP s true l = true) : exposesP s false l = true := by
  unfold exposesP at h ⊢
  simp only [Bool.and_eq_true, Bool.or_eq_true] at h ⊢
  refine ⟨h.1, ?_⟩
  rcases h.2 with h2 | h2 | h2
  · exact .inl h2
  · exact .inr (.inl h2)
  · cases h2
theorem pre_low (o : List UInt8) (cred : Bool) (name : ByteArray) (l : List S40) : preflightP o cred [80, 85, 84] [name] 200 l = preflightP o cred [112, 117, 116] [txt (Plain.lower name.data.toList)] 200 (l.map lowF) := by
  unfold preflightP
  rw [check_low, list_low, list_low, show safeP [80, 85, 84] = safeP [112, 117, 116] from by decide +kernel, show Plain.method [80, 85, 84] = Plain.method [112, 117, 116] from by decide +kernel]
  simp only [List.all_cons, List.all_nil, Bool.and_true, Ext.txt_data, header_low]
theorem letters_l0 {l : List S40} (hT : Fits l) (hl : l.length ≤ 50) (a0 : ByteArray) (a1 : Bool) (a3 : ByteArray) (h3 : a3.size ≤ 1048576) (d : Nat) : ∀ (k i : Nat), l.length - i = d → i ≤ l.length → d + 8000000000000 < k →
    transeptlaw17_CorsLetters.l0 k a0 a1 l a3 true ((l.take i).map lowF) (i : Int) = some true := by
  have h3B : a3.size ≤ Big := by unfold Ext.Big; omega
  induction d with
  | zero =>
    intro k i hd hi hk
    obtain ⟨k, rfl⟩ : ∃ m, k = m + 1 := ⟨k - 1, by omega⟩
    have hM := fits_low hT
    have hlow : (txt (Plain.lower a3.data.toList)).size ≤ Big := by rw [Ext.txt_size, Plain.lower_length, len_eq]; exact h3B
    have hTl := hT.len
    have hMl := hM.len
    have u1 : ∀ s ∈ [a3], s.size ≤ Big := fun s hs => by rw [List.mem_singleton.1 hs]; exact h3B
    have u2 : ∀ s ∈ [txt (Plain.lower a3.data.toList)], s.size ≤ Big := fun s hs => by rw [List.mem_singleton.1 hs]; exact hlow
    rw [List.take_of_length_le (by omega)]
    simp only [transeptlaw17_CorsLetters.l0]
    rw [if_neg (by omega), flower a3 h3B]
    simp only [Option.bind_some, if_true]
    rw [check_f hT a0 a1 k (by omega), check_f hM a0 a1 k (by omega), age_f hT k (by omega), age_f hM k (by omega), exposes_f hT a3 h3B a1 k (by omega), exposes_f hM _ hlow a1 k (by omega),
      preflight_f hT a0 a1 _ (by decide +kernel) _ u1 200 k (by omega), preflight_f hM a0 a1 _ (by decide +kernel) _ u2 200 k (by omega), exposes_f hT a3 h3B true k (by omega), exposes_f hT a3 h3B false k (by omega), Ext.txt_data, check_low, age_low, exposes_low,
      show (⟨#[80, 85, 84]⟩ : ByteArray).data.toList = [80, 85, 84] from rfl, show (⟨#[112, 117, 116]⟩ : ByteArray).data.toList = [112, 117, 116] from rfl, ← pre_low]
    simp only [Option.bind_some, beq_self_eq_true, if_true]
    cases he : exposesP a3.data.toList true l with
    | false => rfl
    | true => rw [if_pos rfl, exposes_less he]
  | succ d ih =>
    intro k i hd hi hk
    obtain ⟨k, rfl⟩ : ∃ m, k = m + 1 := ⟨k - 1, by omega⟩
    have hli : i < l.length := by omega
    simp only [transeptlaw17_CorsLetters.l0]
    rw [if_pos (by omega), if_pos (by omega), rd_F l i hli, flower _ (hT.big _ (List.getElem_mem hli))]
    simp only [Option.bind_some]
    rw [if_pos (by rw [List.length_map, List.length_take]; omega), wrap_in (by omega) (by omega), show ((i : Int) + 1) = ((i + 1 : Nat) : Int) from by omega]
    have := ih k (i + 1) (by omega) (by omega) (by omega)
    rw [List.take_succ_eq_append_getElem hli, List.map_append] at this
    exact this
theorem CorsLetters (a0 : ByteArray) (a1 : Bool) (l2 : List S40) (a3 : ByteArray) (h0 : a0.size ≤ 1048576) (h2 : l2.length ≤ 1048576 ∧ ∀ s ∈ l2, s.f0.size ≤ 1048576 ∧ s.f1.size ≤ 1048576) (h3 : a3.size ≤ 1048576) : ∃ k, transeptlaw17_CorsLetters.f k a0 a1 l2 a3 = some true := by
  obtain ⟨k, hk⟩ : ∃ k : Nat, 9000000000000 < k := ⟨_, Nat.lt_succ_self _⟩
  refine ⟨k, ?_⟩
  have hT := Fits.take (fits_letters h2) (min l2.length 50)
  have hlen : (l2.take (min l2.length 50)).length ≤ 50 := by rw [List.length_take]; omega
  unfold transeptlaw17_CorsLetters.f
  rw [show transeptlaw17_shown.f k = some true from rfl, few_f l2 k (by omega)]
  simp only [Option.bind_some]
  have := letters_l0 hT hlen a0 a1 a3 h3 _ k 0 rfl (by omega) (by omega)
  rw [List.take_zero] at this
  exact this
end Go.Proofs.YtaabfmpoodjhjaaDoor.Pure
