/-
  CONTRACTS, proved by hand: the function value that safe.without hands back. Conditions: those in each statement.
-/
import Derived.Test.YtikhboebmmmopaaDoorExtB
import Derived.Test.YtikhboebmmmopaaDoorExtCB
namespace Go.Proofs.YtikhboebmmmopaaDoor.Ext
open Go.RowKit Go.Proofs.YtikhboebmmmopaaDoorW.PrintWords

set_option maxHeartbeats 1000000 in
theorem without1_any (g : Nat) (p : Int → Bool) (eg : ∀ args w, (callFunc g args).run Tryd.prog w = .ok (.enter g args) w) (a : Addr) (s : ByteArray) (w : World) (hs : s.size ≤ 9223372036854775807)
    (hc : w.cell? a = some (.func (.func g) #[] #[])) (hp : TellsB g #[] (fun x => 0 ≤ x ∧ x < 256) p w) :
    Calls Tryd.prog 37 #[.string s, .pointer (some a)] w fun e w' => e = .returned (.bool (!(ints s.data.toList).any p)) ∧ Below w.heap.size w w' := by
  have hcv := fun W : World => Lib.run_convert_string_bytes (P := Tryd.prog) W 9 42 5 s Tryd.underlying9 Tryd.underlying42 Tryd.underlying5
  have HP := Aside0.mk hp
  have hb0 := below_bytes w s 5
  have hr0 := bys_new w s 5
  have hc0 : (Lib.bytesWorld w 5 s).cell? a = some (.func (.func g) #[] #[]) := pw_cell_below hb0 hc
  have hlen : (ints s.data.toList).length = s.size := by rw [ints_length]; exact (Lib.size_eq s).symm
  have hC : Kd.C (Kd.int .u8) (Lib.bytesWorld w 5 s) (some ⟨w.heap.size, 0, none⟩) (ints s.data.toList).length (ints s.data.toList) :=
    Kd.C_of_reads (d := 0) ⟨rfl, by rw [hlen]; exact hs, fun _ => ⟨_, rfl, fun j hj => by rw [add_plain]; exact (hr0 j hj).1⟩⟩
  have hz : ∀ x ∈ ints s.data.toList, 0 ≤ x ∧ x < 256 := by
    intro x hx
    obtain ⟨b, _, rfl⟩ := List.mem_map.1 hx
    have := UInt8.toNat_lt b
    exact ⟨by omega, by omega⟩
  have HC := Aside0.mk hC
  have HZ := Aside0.mk hz
  have HB0 := Aside0.mk hb0
  have HL := Aside0.mk hlen
  clear hp hC hz hb0 hr0 hlen
  go_enter Tryd.func37, Tryd.ntmps37
  go_wp2_with fail
  have hcall := containsByteFunc_any g #[] (fun x => 0 ≤ x ∧ x < 256) p eg (some ⟨w.heap.size, 0, none⟩) (grownCap w s.size 0 5) (ints s.data.toList) (Lib.bytesWorld w 5 s) (fun W x hx hb => HP.out W x hx (below_then HB0.out HB0.out.size hb)) HZ.out HC.out
  rw [HL.out] at hcall
  refine hcall.mono ?_
  rintro e w1 ⟨rfl, hb1⟩
  have HB1 := Aside0.mk (below_then HB0.out HB0.out.size hb1)
  clear hb1 hcall HP HC HZ hcv
  go_wp2
  go_ret
  exact ⟨rfl, HB1.out⟩
end Go.Proofs.YtikhboebmmmopaaDoor.Ext
