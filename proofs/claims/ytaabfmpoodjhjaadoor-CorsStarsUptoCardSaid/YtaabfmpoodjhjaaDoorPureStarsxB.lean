/-
  THE PLAIN LAW of CorsStars: what the printed law computes is true. Condition: sizes of at most 1048576.
-/
import Derived.Test.YtaabfmpoodjhjaaDoorPureK2xB
import Derived.Test.YtaabfmpoodjhjaaDoorFunWStarsxB
namespace Go.Proofs.YtaabfmpoodjhjaaDoor.Pure
open Go.RowKit Go.Proofs.YtaabfmpoodjhjaaDoorW.PrintWords
open Go.Proofs.YtaabfmpoodjhjaaDoor.Ext (txt Big)
open Go.Proofs.YtaabfmpoodjhjaaDoor.Fun
def starL : List S40 := [⟨⟨#[65, 99, 99, 101, 115, 115, 45, 67, 111, 110, 116, 114, 111, 108, 45, 97, 108, 108, 111, 119, 45, 111, 114, 105, 103, 105, 110]⟩, ⟨#[42]⟩⟩, ⟨⟨#[65, 99, 99, 101, 115, 115, 45, 67, 111, 110, 116, 114, 111, 108, 45, 97, 108, 108, 111, 119, 45, 109, 101, 116, 104, 111, 100, 115]⟩, ⟨#[42]⟩⟩, ⟨⟨#[65, 99, 99, 101, 115, 115, 45, 67, 111, 110, 116, 114, 111, 108, 45, 97, 108, 108, 111, 119, 45, 104, 101, 97, 100, 101, 114, 115]⟩, ⟨#[42]⟩⟩, ⟨⟨#[65, 99, 99, 101, 115, 115, 45, 67, 111, 110, 116, 114, 111, 108, 45, 101, 120, 112, 111, 115, 101, 45, 104, 101, 97, 100, 101, 114, 115]⟩, ⟨#[42]⟩⟩]
def starM : List S40 := [⟨⟨#[65, 99, 99, 101, 115, 115, 45, 67, 111, 110, 116, 114, 111, 108, 45, 97, 108, 108, 111, 119, 45, 109, 101, 116, 104, 111, 100, 115]⟩, ⟨#[42]⟩⟩, ⟨⟨#[65, 99, 99, 101, 115, 115, 45, 67, 111, 110, 116, 114, 111, 108, 45, 97, 108, 108, 111, 119, 45, 104, 101, 97, 100, 101, 114, 115]⟩, ⟨#[42]⟩⟩, ⟨⟨#[65, 99, 99, 101, 115, 115, 45, 67, 111, 110, 116, 114, 111, 108, 45, 101, 120, 112, 111, 115, 101, 45, 104, 101, 97, 100, 101, 114, 115]⟩, ⟨#[42]⟩⟩, ⟨⟨#[65, 99, 99, 101, 115, 115, 45, 67, 111, 110, 116, 114, 111, 108, 45, 97, 108, 108, 111, 119, 45, 111, 114, 105, 103, 105, 110]⟩, ⟨#[111]⟩⟩, ⟨⟨#[65, 99, 99, 101, 115, 115, 45, 67, 111, 110, 116, 114, 111, 108, 45, 97, 108, 108, 111, 119, 45, 99, 114, 101, 100, 101, 110, 116, 105, 97, 108, 115]⟩, ⟨#[116, 114, 117, 101]⟩⟩]
theorem fits_starL : Fits starL := ⟨by decide, by decide +kernel, by decide +kernel⟩
theorem fits_starM : Fits starM := ⟨by decide, by decide +kernel, by decide +kernel⟩
def starP (s : List UInt8) : Bool := s == [42]
def authP (s : List UInt8) : Bool := Plain.lower s == auth
theorem low_star (s : List UInt8) : Plain.foldB [42] s = starP s := by
  have hc : ∀ c : UInt8, (Plain.lowC c == 42) = (c == 42) := by
    intro c
    have := Plain.all_bytes (p := fun c => (Plain.lowC c == 42) == (c == 42)) (by decide +kernel) c
    simpa using this
  unfold Plain.foldB starP
  match s with
  | [] => rfl
  | [c] =>
    have h := hc c
    rw [Bool.eq_iff_iff] at h ⊢
    simp only [Plain.lower, List.map_cons, List.map_nil, beq_iff_eq, List.cons.injEq, and_true] at h ⊢
    rw [show Plain.lowC 42 = 42 from by decide, ← h]
    exact eq_comm
  | c :: d :: r =>
    rw [Bool.eq_iff_iff]
    simp [Plain.lower]
theorem method_star (m : List UInt8) : [[42]].contains (Plain.method m) = starP m := by
  unfold Plain.method starP
  by_cases h : Plain.methods.contains (Plain.upper m) = true
  · rw [if_pos h]
    have h1 : ¬ m = [42] := by
      rintro rfl
      revert h
      decide +kernel
    have h2 : ¬ Plain.upper m = [42] := by
      intro e
      rw [e] at h
      revert h
      decide +kernel
    rw [Bool.eq_iff_iff]
    simp [h1, h2]
  · rw [if_neg h, Bool.eq_iff_iff]
    simp
theorem header_star (s : List UInt8) : headerP [[42]] false s = !authP s := by
  have e : Plain.foldB s auth = authP s := by
    unfold Plain.foldB authP
    rw [show Plain.lower auth = auth from by decide +kernel]
  have f : foldedP [[42]] s = starP s := by
    unfold foldedP
    simp only [List.any_cons, List.any_nil, Bool.or_false]
    exact low_star s
  unfold headerP
  rw [e, f, show allP [[42]] false = true from by decide]
  cases ha : authP s with
  | false => simp
  | true =>
    have : starP s = false := by
      unfold starP
      rw [beq_eq_false_iff_ne]
      rintro rfl
      revert ha
      decide +kernel
    rw [this]
    rfl
theorem header_star2 (s : List UInt8) : headerP [[42]] true s = starP s := by
  have f : foldedP [[42]] s = starP s := by
    unfold foldedP
    simp only [List.any_cons, List.any_nil, Bool.or_false]
    exact low_star s
  unfold headerP
  rw [f, show allP [[42]] true = false from rfl]
  simp
theorem all_not (us : List ByteArray) (p : List UInt8 → Bool) : (us.all fun s => !p s.data.toList) = !us.any fun s => p s.data.toList := by
  induction us with
  | nil => rfl
  | cons x r ih =>
    rw [List.all_cons, List.any_cons, ih, Bool.not_or]
theorem pre_star (m : List UInt8) (us : List ByteArray) : preflightP [111] false m us 200 starL = !us.any fun s => authP s.data.toList := by
  unfold preflightP
  rw [show checkP starL [111] false = true from by decide +kernel, show listP starL nMethods = [[42]] from by decide +kernel, show listP starL nHeaders = [[42]] from by decide +kernel, show allP [[42]] false = true from by decide]
  simp only [header_star, all_not]
  simp
theorem pre_star2 (m : List UInt8) (us : List ByteArray) : preflightP [111] true m us 200 starM = ((safeP m || starP m) && us.all fun s => starP s.data.toList) := by
  unfold preflightP
  rw [show checkP starM [111] true = true from by decide +kernel, show listP starM nMethods = [[42]] from by decide +kernel, show listP starM nHeaders = [[42]] from by decide +kernel, show allP [[42]] true = false from rfl, method_star]
  simp only [header_star2]
  simp
theorem exp_star (s : List UInt8) : exposesP s false starL = !hiddenP s := by
  unfold exposesP
  rw [show listP starL nExpose = [[42]] from by decide +kernel, show allP [[42]] false = true from by decide]
  simp
theorem exp_star2 (s : List UInt8) : exposesP s true starM = (!hiddenP s && (readsP s || starP s)) := by
  unfold exposesP
  rw [show listP starM nExpose = [[42]] from by decide +kernel, show allP [[42]] true = false from rfl, show foldedP [[42]] s = starP s from by unfold foldedP; simp only [List.any_cons, List.any_nil, Bool.or_false]; exact low_star s]
  simp
theorem stars_j1 (a0 : ByteArray) (us : List ByteArray) (a2 : ByteArray) (h0 : a0.size ≤ Big) (hu : ∀ s ∈ us, s.size ≤ Big) (h2 : a2.size ≤ Big) (k : Nat) (hk : 4000000000000 < k) (x10 x11 x13 : Bool) (e10 : x10 = us.any fun s => authP s.data.toList) (e11 : x11 = us.all fun s => starP s.data.toList) (e13 : x13 = (safeP a0.data.toList || starP a0.data.toList)) :
    transeptlaw17_CorsStars.j1 (k + 1) a0 us a2 true starL starM x10 x11 x13 = some true := by
  have q1 : cors_Preflight.f k (⟨#[111]⟩ : ByteArray) false a0 us 200 starL = some (!x10) := by
    rw [preflight_f fits_starL _ _ _ h0 _ hu _ k (by omega), show (⟨#[111]⟩ : ByteArray).data.toList = [111] from rfl, pre_star, e10]
  have q2 : cors_Preflight.f k (⟨#[111]⟩ : ByteArray) true a0 us 200 starM = some (x13 && x11) := by
    rw [preflight_f fits_starM _ _ _ h0 _ hu _ k (by omega), show (⟨#[111]⟩ : ByteArray).data.toList = [111] from rfl, pre_star2, e13, e11]
  have q3 : cors_Exposes.f k a2 false starL = some (!hiddenP a2.data.toList) := by rw [exposes_f fits_starL a2 h2 _ k (by omega), exp_star]
  have q4 : cors_Exposes.f k a2 true starM = some (!hiddenP a2.data.toList && (readsP a2.data.toList || starP a2.data.toList)) := by rw [exposes_f fits_starM a2 h2 _ k (by omega), exp_star2]
  have q5 := hidden_f a2 h2
  have q6 := reads_f a2 h2 k (by omega)
  have q7 : (a2.toList == ([42] : List UInt8)) = starP a2.data.toList := by rw [list_eq]; rfl
  simp only [transeptlaw17_CorsStars.j1, q1, q2, q3, q4, q5, q6, q7, Option.bind_some, if_true]
  generalize starP a2.data.toList = g
  cases x10 <;> cases x11 <;> cases x13 <;> cases hiddenP a2.data.toList <;> cases readsP a2.data.toList <;> cases g <;> rfl
theorem stars_l0 (a0 : ByteArray) (us : List ByteArray) (hl : us.length ≤ 50) (a2 : ByteArray) (h0 : a0.size ≤ Big) (hu : ∀ s ∈ us, s.size ≤ Big) (h2 : a2.size ≤ Big) (d : Nat) : ∀ (k i : Nat), us.length - i = d → i ≤ us.length → d + 4000000000010 < k →
    transeptlaw17_CorsStars.l0 k a0 us a2 true starL starM ((us.take i).any fun s => authP s.data.toList) ((us.take i).all fun s => starP s.data.toList) (i : Int) = some true := by
  induction d with
  | zero =>
    intro k i hd hi hk
    obtain ⟨k, rfl⟩ : ∃ m, k = m + 2 := ⟨k - 2, by omega⟩
    rw [List.take_of_length_le (by omega)]
    simp only [transeptlaw17_CorsStars.l0]
    rw [if_neg (by omega), safem_f a0 h0 (k + 1) (by omega)]
    simp only [Option.bind_some]
    cases hs : safeP a0.data.toList with
    | true =>
      rw [if_pos rfl]
      exact stars_j1 a0 us a2 h0 hu h2 k (by omega) _ _ _ rfl rfl (by rw [hs]; rfl)
    | false =>
      rw [if_neg (by decide)]
      exact stars_j1 a0 us a2 h0 hu h2 k (by omega) _ _ _ rfl rfl (by rw [hs, list_eq]; rfl)
  | succ d ih =>
    intro k i hd hi hk
    obtain ⟨k, rfl⟩ : ∃ m, k = m + 1 := ⟨k - 1, by omega⟩
    have hli : i < us.length := by omega
    have hsi := hu us[i] (List.getElem_mem hli)
    have hih := ih k (i + 1) (by omega) (by omega) (by omega)
    rw [List.take_succ_eq_append_getElem hli, List.any_append, List.all_append] at hih
    simp only [List.any_cons, List.any_nil, List.all_cons, List.all_nil, Bool.or_false, Bool.and_true] at hih
    have hw : wrap64 ((i : Int) + 1) = ((i + 1 : Nat) : Int) := by
      rw [wrap_in (by omega) (by omega)]
      omega
    have w0 : (0 : Int) ≤ (i : Int) := by omega
    have w1 : (i : Int) < (us.length : Int) := by omega
    have q1 : Ext.law17_lower.f us[i] = some (txt (Plain.lower us[i].data.toList)) := by
      unfold Ext.law17_lower.f
      rw [if_pos hsi]
    have q2 : (us[i].toList == ([42] : List UInt8)) = starP us[i].data.toList := by rw [list_eq]; rfl
    have q3 : (Plain.lower us[i].data.toList == ([97, 117, 116, 104, 111, 114, 105, 122, 97, 116, 105, 111, 110] : List UInt8)) = authP us[i].data.toList := rfl
    simp only [transeptlaw17_CorsStars.l0, if_pos w0, if_pos w1, rd_V us i hli, hw, q1, q2, Option.bind_some, ftl, q3]
    revert hih
    cases (us.take i).any (fun s => authP s.data.toList) <;> cases (us.take i).all (fun s => starP s.data.toList) <;> simp
theorem allow_star (n v r : ByteArray) (h : 15 + n.size ≤ 9223372036854775807) (e : (⟨#[65, 99, 99, 101, 115, 115, 45, 67, 111, 110, 116, 114, 111, 108, 45]⟩ : ByteArray) ++ n = r) : transeptlaw17_allow.f n v = some (r, v) := by
  unfold transeptlaw17_allow.f
  rw [if_pos h, e]
theorem CorsStars (a0 : ByteArray) (l1 : List ByteArray) (a2 : ByteArray) (h0 : a0.size ≤ 1048576) (h1 : l1.length ≤ 1048576 ∧ ∀ s ∈ l1, s.size ≤ 1048576) (h2 : a2.size ≤ 1048576) : ∃ k, transeptlaw17_CorsStars.f k a0 l1 a2 = some true := by
  obtain ⟨k, hk⟩ : ∃ k : Nat, 9000000000000 < k := ⟨_, Nat.lt_succ_self _⟩
  refine ⟨k, ?_⟩
  have hlen : (l1.take (min l1.length 50)).length ≤ 50 := by rw [List.length_take]; omega
  have hu : ∀ s ∈ l1.take (min l1.length 50), s.size ≤ Big := fun s hs => by have := h1.2 s (List.mem_of_mem_take hs); unfold Ext.Big; omega
  have h0B : a0.size ≤ Big := by unfold Ext.Big; omega
  have h2B : a2.size ≤ Big := by unfold Ext.Big; omega
  have b0 : transeptlaw17_allow.f (⟨#[97, 108, 108, 111, 119, 45, 111, 114, 105, 103, 105, 110]⟩ : ByteArray) (⟨#[42]⟩ : ByteArray) = some (⟨#[65, 99, 99, 101, 115, 115, 45, 67, 111, 110, 116, 114, 111, 108, 45, 97, 108, 108, 111, 119, 45, 111, 114, 105, 103, 105, 110]⟩, ⟨#[42]⟩) := allow_star _ _ _ (by decide +kernel) (by decide +kernel)
  have b1 : transeptlaw17_allow.f (⟨#[97, 108, 108, 111, 119, 45, 109, 101, 116, 104, 111, 100, 115]⟩ : ByteArray) (⟨#[42]⟩ : ByteArray) = some (⟨#[65, 99, 99, 101, 115, 115, 45, 67, 111, 110, 116, 114, 111, 108, 45, 97, 108, 108, 111, 119, 45, 109, 101, 116, 104, 111, 100, 115]⟩, ⟨#[42]⟩) := allow_star _ _ _ (by decide +kernel) (by decide +kernel)
  have b2 : transeptlaw17_allow.f (⟨#[97, 108, 108, 111, 119, 45, 104, 101, 97, 100, 101, 114, 115]⟩ : ByteArray) (⟨#[42]⟩ : ByteArray) = some (⟨#[65, 99, 99, 101, 115, 115, 45, 67, 111, 110, 116, 114, 111, 108, 45, 97, 108, 108, 111, 119, 45, 104, 101, 97, 100, 101, 114, 115]⟩, ⟨#[42]⟩) := allow_star _ _ _ (by decide +kernel) (by decide +kernel)
  have b3 : transeptlaw17_allow.f (⟨#[101, 120, 112, 111, 115, 101, 45, 104, 101, 97, 100, 101, 114, 115]⟩ : ByteArray) (⟨#[42]⟩ : ByteArray) = some (⟨#[65, 99, 99, 101, 115, 115, 45, 67, 111, 110, 116, 114, 111, 108, 45, 101, 120, 112, 111, 115, 101, 45, 104, 101, 97, 100, 101, 114, 115]⟩, ⟨#[42]⟩) := allow_star _ _ _ (by decide +kernel) (by decide +kernel)
  have b4 : transeptlaw17_allow.f (⟨#[97, 108, 108, 111, 119, 45, 111, 114, 105, 103, 105, 110]⟩ : ByteArray) (⟨#[111]⟩ : ByteArray) = some (⟨#[65, 99, 99, 101, 115, 115, 45, 67, 111, 110, 116, 114, 111, 108, 45, 97, 108, 108, 111, 119, 45, 111, 114, 105, 103, 105, 110]⟩, ⟨#[111]⟩) := allow_star _ _ _ (by decide +kernel) (by decide +kernel)
  have b5 : transeptlaw17_allow.f (⟨#[97, 108, 108, 111, 119, 45, 99, 114, 101, 100, 101, 110, 116, 105, 97, 108, 115]⟩ : ByteArray) (⟨#[116, 114, 117, 101]⟩ : ByteArray) = some (⟨#[65, 99, 99, 101, 115, 115, 45, 67, 111, 110, 116, 114, 111, 108, 45, 97, 108, 108, 111, 119, 45, 99, 114, 101, 100, 101, 110, 116, 105, 97, 108, 115]⟩, ⟨#[116, 114, 117, 101]⟩) := allow_star _ _ _ (by decide +kernel) (by decide +kernel)
  unfold transeptlaw17_CorsStars.f
  rw [show transeptlaw17_shown.f k = some true from rfl]
  simp only [Option.bind_some, List.length_nil, List.nil_append]
  rw [mn_50, if_pos (by omega), if_pos (by omega), Int.toNat_natCast, if_pos (by omega), b0, b1, b2, b3, b4, b5]
  simp only [Option.bind_some, List.length_cons, List.length_nil, List.drop_succ_cons, List.drop_zero]
  rw [if_pos (by decide), if_pos (by decide), if_pos (by decide)]
  have := stars_l0 a0 _ hlen a2 h0B hu h2B _ k 0 rfl (by omega) (by omega)
  rw [List.take_zero] at this
  exact this
end Go.Proofs.YtaabfmpoodjhjaaDoor.Pure
