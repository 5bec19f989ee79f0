-- typed by hand
import Derived.Test.YtaabfmpoodjhjaaDoorFunxB
namespace Go.Proofs.YtaabfmpoodjhjaaDoor.Fun
open Go.RowKit Go.Proofs.YtaabfmpoodjhjaaDoorW.PrintWords Go.Proofs.YtaabfmpoodjhjaaDoorW.PrintLast Go.Proofs.YtaabfmpoodjhjaaDoorW.PrintMore
attribute [local go_sem] max2_int min2_int max_two min_two max_three min_three max_four min_four   -- for this text's walks alone
set_option linter.unusedVariables false
set_option linter.unusedSimpArgs false

/-! ### transeptlaw17_digits: by hand: the digits of a number from 0 on -/
def digL (n : Nat) : List UInt8 := if h : n < 10 then [UInt8.ofNat (48 + n)] else digL (n / 10) ++ [UInt8.ofNat (48 + n % 10)]
termination_by n
decreasing_by omega
theorem digL_small {n : Nat} (h : n < 10) : digL n = [UInt8.ofNat (48 + n)] := by rw [digL, dif_pos h]
theorem digL_big {n : Nat} (h : ¬ n < 10) : digL n = digL (n / 10) ++ [UInt8.ofNat (48 + n % 10)] := by rw [digL, dif_neg h]
theorem digL_length : ∀ (j n : Nat), n < 10 ^ (j + 1) → (digL n).length ≤ j + 1
  | 0, n, h => by rw [digL_small (by simpa using h)]; simp
  | j + 1, n, h => by
    by_cases hn : n < 10
    · rw [digL_small hn]; simp
    · rw [Nat.pow_succ] at h
      have := digL_length j (n / 10) (by omega)
      rw [digL_big hn, List.length_append]
      simp only [List.length_cons, List.length_nil]
      omega
def transeptlaw17_digits.f (_k : Nat) (a0 : Int) : Option ByteArray := if 0 ≤ a0 ∧ a0 < 1000000000 then some (Ext.txt (digL a0.toNat)) else none
set_option maxHeartbeats 4000000 in
set_option maxRecDepth 100000 in
theorem transeptlaw17_digits.at_ (n : Nat) : n < 1000000000 → ∀ (w : World), Calls Tryd.prog 29 #[.int .i64 (n : Int)] w fun e w' => e = .returned (.string (Ext.txt (digL n))) ∧ Below w.heap.size w w' := by
  induction n using Nat.strongRecOn with
  | _ n ih =>
  intro hn w
  have HB := Aside0.mk (Below.refl w.heap.size w)
  have IH := Aside0.mk ih
  clear ih
  have hm : Int.tmod (n : Int) 10 = ((n % 10 : Nat) : Int) := by rw [Int.tmod_eq_emod_of_nonneg (by omega)]; omega
  have hq : Int.tdiv (n : Int) 10 = ((n / 10 : Nat) : Int) := by rw [Int.tdiv_eq_ediv_of_nonneg (by omega)]; omega
  have hcv : (convert 62 9 (.slice (some ⟨w.heap.size, 0, none⟩) 1 1)).run Tryd.prog (w.alloc (Obj.cells #[Value.int IntKind.u8 (48 + (n : Int) % 10)] 5)) = .ok (.string (Ext.txt [UInt8.ofNat (48 + n % 10)])) (w.alloc (Obj.cells #[Value.int IntKind.u8 (48 + (n : Int) % 10)] 5)) := by
    have h := run_convert_bytes_arg (P := Tryd.prog) (w.alloc (Obj.cells #[Value.int IntKind.u8 (48 + (n : Int) % 10)] 5)) 62 5 Tryd.underlying62 Tryd.underlying5 w.heap.size 0 1 1 [48 + (n : Int) % 10] rfl (fun i hi => by
      obtain rfl : i = 0 := by simpa using hi
      simp) 9 Tryd.underlying9
    rw [h]
    congr 2
    all_goals (unfold strOfNums Ext.txt; rw [List.map_cons, List.map_nil, show (48 + (n : Int) % 10).toNat = 48 + n % 10 by omega])
  have hq2 : ((n / 10 : Nat) : Int) = (n : Int) / 10 := by omega
  have HBa := Aside0.mk (below_alloc HB.out (Obj.cells #[Value.int IntKind.u8 (48 + (n : Int) % 10)] 5))
  by_cases h10 : n < 10
  · have hi10 : (n : Int) < 10 := by omega
    have hd : Ext.txt (digL n) = Ext.txt [UInt8.ofNat (48 + n % 10)] := by rw [digL_small h10, Nat.mod_eq_of_lt h10]
    have HD := Aside0.mk hd
    clear hd IH
    generalize Ext.txt [UInt8.ofNat (48 + n % 10)] = U at hcv HD
    go_enter Tryd.func29, Tryd.ntmps29
    go_wp2
    all_goals (try (exfalso; omega))
    go_ret
    exact ⟨by first | (rw [HD.out]; done) | (rw [HD.out]; rfl), HBa.out⟩
  · have hi10 : ¬ (n : Int) < 10 := by omega
    have hlen := digL_length 8 (n / 10) (by simp only [Nat.reduceAdd, Nat.reducePow]; omega)
    have hz : (Ext.txt (digL (n / 10))).size ≤ 9 := by rw [Ext.txt_size]; exact hlen
    have hz1 : (Ext.txt [UInt8.ofNat (48 + n % 10)]).size = 1 := by rw [Ext.txt_size]; rfl
    have hsz : (Ext.txt (digL (n / 10))).size + (Ext.txt [UInt8.ofNat (48 + n % 10)]).size ≤ 9223372036854775807 := by omega
    have hrec := IH.out (n / 10) (by omega) (by omega) (w.alloc (Obj.cells #[Value.int IntKind.u8 (48 + (n : Int) % 10)] 5))
    rw [hq2] at hrec
    have HREC := Aside0.mk hrec
    have hd : Ext.txt (digL n) = Ext.txt (digL (n / 10)) ++ Ext.txt [UInt8.ofNat (48 + n % 10)] := by
      rw [digL_big h10]
      apply Ext.data_inj
      simp [Ext.txt_data]
    have HD := Aside0.mk hd
    clear hd IH hrec hlen
    generalize Ext.txt (digL (n / 10)) = T at HREC HD hz hsz
    generalize Ext.txt [UInt8.ofNat (48 + n % 10)] = U at hcv HD hz1 hsz
    go_enter Tryd.func29, Tryd.ntmps29
    go_wp2_with fail
    all_goals (try (exfalso; omega))
    refine HREC.out.mono ?_
    rintro e_ w1 ⟨rfl, hb1⟩
    have HB1 := Aside0.mk (below_step HBa.out hb1)
    clear hb1 HREC
    go_wp2
    all_goals (try (exfalso; omega))
    go_ret
    exact ⟨by first | (rw [HD.out]; done) | (rw [HD.out]; rfl), HB1.out⟩
theorem transeptlaw17_digits.calls (k : Nat) (a0 : Int) (r : ByteArray) (w : World) (h : transeptlaw17_digits.f k a0 = some r) :
    Calls Tryd.prog 29 #[.int .i64 a0] w fun e w' => e = .returned (.string r) ∧ Below w.heap.size w w' := by
  unfold transeptlaw17_digits.f at h
  split at h
  · rename_i hb
    obtain rfl := Option.some.inj h
    have := transeptlaw17_digits.at_ a0.toNat (by omega) w
    rw [show ((a0.toNat : Nat) : Int) = a0 by omega] at this
    exact this
  · cases h

end Go.Proofs.YtaabfmpoodjhjaaDoor.Fun
