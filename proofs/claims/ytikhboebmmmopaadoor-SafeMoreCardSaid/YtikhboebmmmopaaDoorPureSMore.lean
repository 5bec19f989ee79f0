/-
  THE PLAIN LAW of SafeMore: what the printed law computes is true. Condition: sizes of at most 140737488351232.
-/
import Derived.Test.YtikhboebmmmopaaDoorPureS
import Derived.Test.YtikhboebmmmopaaDoorFunWMore
namespace Go.Proofs.YtikhboebmmmopaaDoor.Pure
open Go.RowKit Go.Proofs.YtikhboebmmmopaaDoorW.PrintWords Go.Proofs.YtikhboebmmmopaaDoorW.PrintMore
open Go.Proofs.YtikhboebmmmopaaDoor.Ext (txt Big)
open Go.Proofs.YtikhboebmmmopaaDoor.Fun Go.Proofs.YtikhboebmmmopaaDoor.PureS
theorem more_mn (n : Nat) : mn (n : Int) 50 = ((min n 50 : Nat) : Int) := by
  unfold mn
  split <;> omega
theorem more_l0 (l : List S30) (a1 a2 : ByteArray) (a b : List (List UInt8)) (hab : ∀ x ∈ a, x ∈ b) (ha : a.length ≤ 1048600) (hb : b.length ≤ 1048600) (r : Bool) (hr : Ext.safe_Header.f a1 a2 = some r) (K : Nat) (hK : 1048600 < K) (hend : ∀ k, K ≤ k → transeptlaw12_SafeMore.l1 k l a1 a2 true (a.map txt) (b.map txt) r 0 0 = some true) (d : Nat) : ∀ (k i : Nat), a.length - i = d → i ≤ a.length → d + K < k →
    transeptlaw12_SafeMore.l0 k l a1 a2 true (a.map txt) (b.map txt) (i : Int) = some true := by
  have hlm : (a.map txt).length = a.length := List.length_map ..
  induction d with
  | zero =>
    intro k i hd hi hk
    obtain ⟨k, rfl⟩ : ∃ m, k = m + 1 := ⟨k - 1, by omega⟩
    have c1 : ¬ (i : Int) < ((a.map txt).length : Int) := by omega
    have hE := hend k (by omega)
    simp only [transeptlaw12_SafeMore.l0, if_neg c1, hr, Option.bind_some]
    exact hE
  | succ d ih =>
    intro k i hd hi hk
    obtain ⟨k, rfl⟩ : ∃ m, k = m + 1 := ⟨k - 1, by omega⟩
    have hli : i < a.length := by omega
    have c1 : (i : Int) < ((a.map txt).length : Int) := by omega
    have c2 : (0 : Int) ≤ (i : Int) := by omega
    have hrd : rdOf ByteArray.empty (a.map txt) (i : Int) = txt a[i] := by rw [rd_V _ i (by omega), List.getElem_map]
    have hin := in_f b a[i] (by omega) k (by omega)
    rw [decide_eq_true (hab _ (List.getElem_mem hli))] at hin
    have hI := ih k (i + 1) (by omega) (by omega) (by omega)
    have b5 : i + 1 ≤ 9223372036854775807 := by omega
    have w := wrap_one i b5
    simp only [transeptlaw12_SafeMore.l0, if_pos c1, if_pos c2, hrd, hin, Option.bind_some, if_true, w]
    exact hI
def sumN (l : List S30) : Nat := (l.map ln).sum
theorem sum_take (l : List S30) (i : Nat) (h : i < l.length) : sumN (l.take (i + 1)) = sumN (l.take i) + ln l[i] := by
  unfold sumN
  rw [List.take_succ_eq_append_getElem h, List.map_append, List.sum_append]
  simp
theorem sum_le (l : List S30) (h : ∀ f ∈ l, f.f1.size ≤ 140737488351300) : sumN l ≤ 140737488351300 * l.length := by
  unfold sumN
  induction l with
  | nil => exact Nat.zero_le _
  | cons f r ih =>
    have h1 := h f (List.mem_cons_self ..)
    have h2 := ih fun g hg => h g (List.mem_cons_of_mem _ hg)
    have h3 : ln f = f.f1.size := rfl
    rw [List.map_cons, List.sum_cons, List.length_cons]
    omega
theorem more_l1 (l : List S30) (a1 a2 : ByteArray) (a b : List (List UInt8)) (r : Bool) (hl : l.length ≤ 50) (hv : ∀ f ∈ l, f.f1.size ≤ 140737488351300) (hend : ∀ k, 1048700 < k → (if r = true then (if (wrap64 ((sumN l : Int) + (a2.size : Int))) ≤ 1024 then (if ((b.map txt).length : Int) = ((a.map txt).length : Int) then (some (decide (((b.map txt).length : Int) ≤ (wrap64 ((l.length : Int) + 1))))) else (some false)) else (some (decide (((b.map txt).length : Int) ≤ (wrap64 ((l.length : Int) + 1)))))) else ((Ext.token_Lower.f a1).bind fun t190 => ((transeptlaw12_in.f k (b.map txt) t190).bind fun t191 => (if t191 = true then (some (decide (((b.map txt).length : Int) ≤ (wrap64 ((l.length : Int) + 1))))) else (some false))))) = some true) (d : Nat) : ∀ (k i : Nat), l.length - i = d → i ≤ l.length → d + 1048710 < k →
    transeptlaw12_SafeMore.l1 k l a1 a2 true (a.map txt) (b.map txt) r ((sumN (l.take i) : Nat) : Int) (i : Int) = some true := by
  induction d with
  | zero =>
    intro k i hd hi hk
    obtain ⟨k, rfl⟩ : ∃ m, k = m + 1 := ⟨k - 1, by omega⟩
    have c1 : ¬ (i : Int) < (l.length : Int) := by omega
    have hE := hend k (by omega)
    rw [List.take_of_length_le (show l.length ≤ i by omega)]
    simp only [transeptlaw12_SafeMore.l1, if_neg c1, if_true]
    exact hE
  | succ d ih =>
    intro k i hd hi hk
    obtain ⟨k, rfl⟩ : ∃ m, k = m + 1 := ⟨k - 1, by omega⟩
    have hli : i < l.length := by omega
    have c1 : (i : Int) < (l.length : Int) := by omega
    have c2 : (0 : Int) ≤ (i : Int) := by omega
    have hrd := rd_F l i hli
    have hst := sum_take l i hli
    have hsl := sum_le (l.take i) fun f hf => hv f (List.mem_of_mem_take hf)
    rw [List.length_take] at hsl
    have hlast := hv _ (List.getElem_mem hli)
    have hI := ih k (i + 1) (by omega) (by omega) (by omega)
    generalize l[i] = f at hrd hst hlast
    have hlf : ln f = f.f1.size := rfl
    rw [← hlf] at hlast
    rw [hst] at hI
    generalize sumN (l.take i) = n at hsl hI ⊢
    have hm : min i l.length ≤ 50 := by omega
    generalize min i l.length = q at hsl hm
    have b5 : i + 1 ≤ 9223372036854775807 := by omega
    have b6 : n + ln f ≤ 9223372036854775807 := by omega
    have w := wrap_one i b5
    have w2 := wrap_add n (ln f) b6
    rw [hlf] at w2 hI
    simp only [transeptlaw12_SafeMore.l1, if_pos c1, if_pos c2, hrd, w, w2]
    exact hI
theorem SafeMore (l0 : List S30) (a1 a2 : ByteArray) (h0 : ∀ s ∈ l0, s.f0.size ≤ 140737488351232 ∧ s.f1.size ≤ 140737488351232) (h1 : a1.size ≤ 140737488351232) (h2 : a2.size ≤ 140737488351232) : ∃ k, transeptlaw12_SafeMore.f k l0 a1 a2 = some true := by
  obtain ⟨k, hk⟩ : ∃ k : Nat, 9000000 < k := ⟨_, Nat.lt_succ_self _⟩
  refine ⟨k, ?_⟩
  have e1 := more_mn l0.length
  have c1 : (0 : Int) ≤ ((min l0.length 50 : Nat) : Int) := by omega
  have c2 : ((min l0.length 50 : Nat) : Int) ≤ (l0.length : Int) := by omega
  have hT : ∀ f ∈ l0.take (min l0.length 50), f.f0.size ≤ 140737488351300 ∧ f.f1.size ≤ 140737488351300 := fun f hf => by
    have := h0 f (List.mem_of_mem_take hf)
    exact ⟨Nat.le_trans this.1 (by decide), Nat.le_trans this.2 (by decide)⟩
  have hlen : (l0.take (min l0.length 50)).length ≤ 50 := by rw [List.length_take]; omega
  unfold transeptlaw12_SafeMore.f
  rw [show transeptlaw12_shown.f k = some true from rfl, e1]
  clear e1
  simp only [Option.bind_some, if_pos c1, if_pos c2, Int.toNat_natCast, List.length_nil, List.nil_append, Nat.zero_add]
  generalize l0.take (min l0.length 50) = l at hT hlen
  clear c1 c2 h0
  obtain ⟨F, hF⟩ : ∃ F : S30, F = ⟨a1, a2⟩ := ⟨_, rfl⟩
  have hF0 : F.f0 = a1 := by rw [hF]
  have hF1 : F.f1 = a2 := by rw [hF]
  have hFits : Fits l := ⟨by omega, fun f hf => (hT f hf).1, fun f hf => (hT f hf).2⟩
  have hFits2 : Fits (l ++ [F]) := ⟨by rw [List.length_append, List.length_singleton]; omega, fun f hf => by
      rcases List.mem_append.1 hf with hf | hf
      · exact (hT f hf).1
      · rw [List.mem_singleton.1 hf, hF0]; exact Nat.le_trans h1 (by decide), fun f hf => by
      rcases List.mem_append.1 hf with hf | hf
      · exact (hT f hf).2
      · rw [List.mem_singleton.1 hf, hF1]; exact Nat.le_trans h2 (by decide)⟩
  have u1 := unsafe_f hFits k (by omega)
  have u2 := unsafe_f hFits2 k (by rw [List.length_append, List.length_singleton]; omega)
  have c3 : l.length < 4398046511104 := by omega
  rw [if_pos c3, u1]
  simp only [Option.bind_some]
  rw [if_pos c3, if_pos c3, ← hF, u2]
  simp only [Option.bind_some]
  have la := unsP_le l
  have lb := unsP_le (l ++ [F])
  rw [List.length_append, List.length_singleton] at lb
  have hr := header_f a1 a2 (Nat.le_trans h1 (by decide)) (Nat.le_trans h2 (by decide))
  have hab : ∀ x ∈ unsP l, x ∈ unsP (l ++ [F]) := fun x hx => Plain.uns_more hd ln field_Names.key l F x hx
  have hlb : decide ((((unsP (l ++ [F])).map txt).length : Int) ≤ wrap64 ((l.length : Int) + 1)) = true := by
    have b5 : l.length + 1 ≤ 9223372036854775807 := by omega
    rw [wrap_one l.length b5, decide_eq_true_eq, List.length_map]
    exact Int.ofNat_le.2 lb
  have hs := sum_le l fun f hf => (hT f hf).2
  have hs2 : sumN l ≤ 140737488351300 * 50 := Nat.le_trans hs (Nat.mul_le_mul_left _ hlen)
  have bs : sumN l + a2.size ≤ 9223372036854775807 := by omega
  have hh : hd F = Plain.hdr a1.data.toList a2.data.toList := by rw [hF]; rfl
  have hkey : field_Names.key F = Plain.lower a1.data.toList := by rw [hF]; rfl
  have hln : ln F = a2.size := by rw [hF]; rfl
  have hl1 : ∀ k, 1048800 ≤ k → transeptlaw12_SafeMore.l1 k l a1 a2 true ((unsP l).map txt) ((unsP (l ++ [F])).map txt) (Plain.hdr a1.data.toList a2.data.toList) 0 0 = some true := by
    intro k hk
    have := more_l1 l a1 a2 (unsP l) (unsP (l ++ [F])) (Plain.hdr a1.data.toList a2.data.toList) hlen (fun f hf => (hT f hf).2) (by
      intro k hk
      rw [hlb]
      cases hp : Plain.hdr a1.data.toList a2.data.toList with
      | true =>
        rw [if_pos rfl, wrap_add (sumN l) a2.size bs]
        by_cases hle : ((sumN l + a2.size : Nat) : Int) ≤ 1024
        · have hsame : unsP (l ++ [F]) = unsP l := Plain.uns_same hd ln field_Names.key l F (by rw [hh]; exact hp) (by rw [hln]; exact Int.ofNat_le.1 hle)
          rw [if_pos hle, hsame, if_pos rfl]
        · rw [if_neg hle]
      | false =>
        have hnew : Plain.lower a1.data.toList ∈ unsP (l ++ [F]) := by
          have := Plain.uns_new hd ln field_Names.key l F (by rw [hh]; exact hp)
          rw [hkey] at this
          exact this
        have hin := in_f (unsP (l ++ [F])) (Plain.lower a1.data.toList) (by omega) k (by omega)
        rw [decide_eq_true hnew] at hin
        rw [if_neg (by decide), lower_f a1 (Nat.le_trans h1 (by decide))]
        simp only [Option.bind_some, hin, if_true]) l.length k 0 rfl (Nat.zero_le _) (by omega)
    exact this
  have := more_l0 l a1 a2 (unsP l) (unsP (l ++ [F])) hab (by omega) (by omega) _ hr 1048800 (by omega) hl1 (unsP l).length k 0 rfl (Nat.zero_le _) (by omega)
  exact this
end Go.Proofs.YtikhboebmmmopaaDoor.Pure
