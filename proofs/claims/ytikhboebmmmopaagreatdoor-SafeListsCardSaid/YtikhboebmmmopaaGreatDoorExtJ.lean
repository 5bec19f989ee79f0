/-
  DERIVED: THE SHELF's CONTRACTS AT THIS DUMP, IN PLAIN WORDS (tools/lay-plain.mjs out of 'TryzIter.lean', which tools/lay-shelf.mjs wrote): THE SAME DECLARATIONS UNDER THE SAME NAMES: 'import', 'namespace', 'open', 'def', 'theorem' AND NOTHING ELSE: no command of the shelf's: FOR A HAND-IN. Each laying: the table of numbers ('.._ren') and one theorem, a field a fact of the dump's own or the kernel's comparison; each contract: ONE APPLICATION.
  CONTRACTS, laid at this dump: slices.Sort, maps.Keys of a map from texts to bools, slices.Sorted of what it hands back. Conditions: those in each statement.
-/
import Derived.Shelf.SlIter.Nil
import Derived.Shelf.SortM.Plain
import Derived.Shelf.SortM.SortNone
import Derived.Ground.GgzProg
import Derived.Ground.SlgmProg
import Derived.Test.YtikhboebmmmopaaGreatDoorProg
namespace Go.Proofs
open Go.Shelf
def Tryz.keys51_ren : Go.Shelf.Ren := ⟨fun | 7 => 51 | 10 => 62 | n => n, fun | 23 => 53 | 26 => 9 | 3 => 4 | 28 => 56 | 0 => 0 | 27 => 55 | 33 => 23 | 4 => 4 | n => n, fun | n => n⟩
theorem Tryz.keys51 : Go.Proofs.SlLaysZ.n7 Tryz.prog Tryz.keys51_ren := {
  mixed := by kernel_rfl
  f7 := ⟨Tryz.f51.name, by decide, Tryz.func51.trans (congrArg some (by kernel_rfl))⟩
  f10 := ⟨Tryz.f62.name, by decide, Tryz.func62.trans (congrArg some (by kernel_rfl))⟩
  t0 := Tryz.underlying0
  a0 := Tryz.isAgg0
  z0 := Tryz.sizeOf0
  v0 := Tryz.zeroValue0
  t4 := Tryz.underlying4
  a4 := Tryz.isAgg4
  z4 := Tryz.sizeOf4
  v4 := Tryz.zeroValue4
  t23 := Tryz.underlying53
  a23 := Tryz.isAgg53
  z23 := Tryz.sizeOf53
  v23 := Tryz.zeroValue53
  t26 := Tryz.underlying9
  a26 := Tryz.isAgg9
  z26 := Tryz.sizeOf9
  v26 := Tryz.zeroValue9
  t27 := Tryz.underlying55
  a27 := Tryz.isAgg55
  z27 := Tryz.sizeOf55
  v27 := Tryz.zeroValue55
  t28 := Tryz.underlying56
  a28 := Tryz.isAgg56
  z28 := Tryz.sizeOf56
  v28 := Tryz.zeroValue56
  t33 := Tryz.underlying23
  a33 := Tryz.isAgg23
  z33 := Tryz.sizeOf23
  v33 := Tryz.zeroValue23 }
def Tryz.sorted50_ren : Go.Shelf.Ren := ⟨fun | 6 => 50 | 8 => 60 | 9 => 61 | 11 => 69 | 13 => 71 | 12 => 70 | 23 => 85 | 24 => 86 | 14 => 76 | 15 => 77 | 16 => 78 | 17 => 79 | 18 => 80 | 19 => 81 | 20 => 82 | 21 => 83 | 22 => 84 | 25 => 99 | 26 => 100 | 27 => 101 | 28 => 102 | 29 => 103 | 30 => 104 | 31 => 110 | n => n, fun | 26 => 9 | 28 => 56 | 24 => 31 | 0 => 0 | 3 => 3 | 37 => 69 | 48 => 79 | 50 => 81 | 4 => 4 | 40 => 73 | 39 => 72 | 45 => 51 | 5 => 5 | 9 => 9 | 51 => 90 | 55 => 94 | 57 => 101 | 58 => 102 | 33 => 23 | n => n, fun | n => n⟩
theorem Tryz.sorted50 : Go.Proofs.SlLaysZ.n6 Tryz.prog Tryz.sorted50_ren := {
  mixed := by kernel_rfl
  f6 := ⟨Tryz.f50.name, by decide, Tryz.func50.trans (congrArg some (by kernel_rfl))⟩
  f8 := ⟨Tryz.f60.name, by decide, Tryz.func60.trans (congrArg some (by kernel_rfl))⟩
  f11 := ⟨Tryz.f69.name, by decide, Tryz.func69.trans (congrArg some (by kernel_rfl))⟩
  t0 := Tryz.underlying0
  a0 := Tryz.isAgg0
  z0 := Tryz.sizeOf0
  v0 := Tryz.zeroValue0
  t24 := Tryz.underlying31
  a24 := Tryz.isAgg31
  z24 := Tryz.sizeOf31
  v24 := Tryz.zeroValue31
  t26 := Tryz.underlying9
  a26 := Tryz.isAgg9
  z26 := Tryz.sizeOf9
  v26 := Tryz.zeroValue9
  t28 := Tryz.underlying56
  a28 := Tryz.isAgg56
  z28 := Tryz.sizeOf56
  v28 := Tryz.zeroValue56
  i26 := by kernel_rfl }
def Tryz.sort61_ren : Go.Shelf.Ren := ⟨fun | 6 => 61 | 8 => 71 | 9 => 70 | 19 => 85 | 20 => 86 | 21 => 76 | 22 => 77 | 23 => 78 | 24 => 79 | 25 => 80 | 26 => 81 | 27 => 82 | 28 => 83 | 29 => 84 | 36 => 99 | 31 => 100 | 32 => 101 | 37 => 102 | 38 => 103 | 39 => 104 | 41 => 110 | n => n, fun | 27 => 31 | 29 => 9 | 3 => 3 | 32 => 69 | 26 => 31 | 0 => 0 | 44 => 79 | 46 => 81 | 4 => 4 | 36 => 73 | 35 => 72 | 41 => 51 | 5 => 5 | 9 => 9 | 53 => 90 | 57 => 94 | 63 => 101 | 64 => 102 | n => n, fun | n => n⟩
theorem Tryz.sort61 : Go.Proofs.SlLaysM.n6 Tryz.prog Tryz.sort61_ren := {
  mixed := by kernel_rfl
  f6 := ⟨Tryz.f61.name, by decide, Tryz.func61.trans (congrArg some (by kernel_rfl))⟩
  f8 := Tryz.func71.trans (congrArg some (by kernel_rfl))
  f9 := ⟨Tryz.f70.name, by decide, Tryz.func70.trans (congrArg some (by kernel_rfl))⟩
  f19 := Tryz.func85.trans (congrArg some (by kernel_rfl))
  f20 := Tryz.func86.trans (congrArg some (by kernel_rfl))
  f21 := ⟨Tryz.f76.name, by decide, Tryz.func76.trans (congrArg some (by kernel_rfl))⟩
  f22 := ⟨Tryz.f77.name, by decide, Tryz.func77.trans (congrArg some (by kernel_rfl))⟩
  f23 := ⟨Tryz.f78.name, by decide, Tryz.func78.trans (congrArg some (by kernel_rfl))⟩
  f24 := ⟨Tryz.f79.name, by decide, Tryz.func79.trans (congrArg some (by kernel_rfl))⟩
  f25 := ⟨Tryz.f80.name, by decide, Tryz.func80.trans (congrArg some (by kernel_rfl))⟩
  f26 := ⟨Tryz.f81.name, by decide, Tryz.func81.trans (congrArg some (by kernel_rfl))⟩
  f27 := ⟨Tryz.f82.name, by decide, Tryz.func82.trans (congrArg some (by kernel_rfl))⟩
  f28 := ⟨Tryz.f83.name, by decide, Tryz.func83.trans (congrArg some (by kernel_rfl))⟩
  f29 := ⟨Tryz.f84.name, by decide, Tryz.func84.trans (congrArg some (by kernel_rfl))⟩
  f31 := Tryz.func100.trans (congrArg some (by kernel_rfl))
  f32 := Tryz.func101.trans (congrArg some (by kernel_rfl))
  f36 := ⟨Tryz.f99.name, by decide, Tryz.func99.trans (congrArg some (by kernel_rfl))⟩
  f37 := ⟨Tryz.f102.name, by decide, Tryz.func102.trans (congrArg some (by kernel_rfl))⟩
  f38 := ⟨Tryz.f103.name, by decide, Tryz.func103.trans (congrArg some (by kernel_rfl))⟩
  f39 := ⟨Tryz.f104.name, by decide, Tryz.func104.trans (congrArg some (by kernel_rfl))⟩
  f41 := ⟨Tryz.f110.name, by decide, Tryz.func110.trans (congrArg some (by kernel_rfl))⟩
  t0 := Tryz.underlying0
  a0 := Tryz.isAgg0
  z0 := Tryz.sizeOf0
  v0 := Tryz.zeroValue0
  t3 := Tryz.underlying3
  a3 := Tryz.isAgg3
  z3 := Tryz.sizeOf3
  v3 := Tryz.zeroValue3
  t4 := Tryz.underlying4
  a4 := Tryz.isAgg4
  z4 := Tryz.sizeOf4
  v4 := Tryz.zeroValue4
  t5 := Tryz.underlying5
  a5 := Tryz.isAgg5
  z5 := Tryz.sizeOf5
  v5 := Tryz.zeroValue5
  t9 := Tryz.underlying9
  a9 := Tryz.isAgg9
  z9 := Tryz.sizeOf9
  v9 := Tryz.zeroValue9
  t26 := Tryz.underlying31
  a26 := Tryz.isAgg31
  z26 := Tryz.sizeOf31
  v26 := Tryz.zeroValue31
  t27 := Tryz.underlying31
  a27 := Tryz.isAgg31
  z27 := Tryz.sizeOf31
  v27 := Tryz.zeroValue31
  t29 := Tryz.underlying9
  a29 := Tryz.isAgg9
  z29 := Tryz.sizeOf9
  v29 := Tryz.zeroValue9
  t32 := Tryz.underlying69
  a32 := Tryz.isAgg69
  z32 := Tryz.sizeOf69
  v32 := Tryz.zeroValue69
  t35 := Tryz.underlying72
  a35 := Tryz.isAgg72
  z35 := Tryz.sizeOf72
  v35 := Tryz.zeroValue72
  t36 := Tryz.underlying73
  a36 := Tryz.isAgg73
  z36 := Tryz.sizeOf73
  v36 := Tryz.zeroValue73
  t41 := Tryz.underlying51
  a41 := Tryz.isAgg51
  z41 := Tryz.sizeOf51
  v41 := Tryz.zeroValue51
  t44 := Tryz.underlying79
  a44 := Tryz.isAgg79
  z44 := Tryz.sizeOf79
  v44 := Tryz.zeroValue79
  t46 := Tryz.underlying81
  a46 := Tryz.isAgg81
  z46 := Tryz.sizeOf81
  v46 := Tryz.zeroValue81
  t53 := Tryz.underlying90
  a53 := Tryz.isAgg90
  z53 := Tryz.sizeOf90
  v53 := Tryz.zeroValue90
  t57 := Tryz.underlying94
  a57 := Tryz.isAgg94
  z57 := Tryz.sizeOf94
  v57 := Tryz.zeroValue94
  t63 := Tryz.underlying101
  a63 := Tryz.isAgg101
  z63 := Tryz.sizeOf101
  v63 := Tryz.zeroValue101
  t64 := Tryz.underlying102
  a64 := Tryz.isAgg102
  z64 := Tryz.sizeOf102
  v64 := Tryz.zeroValue102 }
end Go.Proofs
namespace Go.Proofs.YtikhboebmmmopaaGreatDoor.Ext
open Go.RowKit Go.Maps Go.Sort Go.Shelf
theorem sorts_at (m : Nat) : AnyZ.SortsIn Tryz.prog Tryz.sorted50_ren Fence.wide m :=
  ⟨fun blk off cap ss W hH hblk hsz => callsIn_wide.2 (AnyM.slices_Sort_string Tryz.sort61 blk off cap ss W hH hblk hsz),
   fun p cap W => callsIn_wide.2 (AnyM.slices_Sort_string_none Tryz.sort61 p cap W)⟩
theorem maps_Keys_any (mb : Option Nat) (W : World) : Calls Tryz.prog 51 #[.map mb] W fun e w' => e = .returned (.func (.func 62) #[] #[.pointer (some ⟨W.heap.size, 0, none⟩)]) ∧ w' = W.alloc (.cells #[.map mb] 53) :=
  callsIn_wide.1 (AnyZ.keys_in Tryz.keys51 Fence.wide 5 trivial rfl mb W)
set_option maxHeartbeats 1000000 in
theorem sorted_keys_any {H : Type} (b nn : Nat) (D0 : DataW H) (R : Value → Option (DataW H × List MemPlace)) (w : World) (hown : w.ownsMap Tryz.prog 9 R b nn D0) (hmax : Maps.size D0 ≤ maxLen) (hbytes : Maps.size D0 * 16 ≤ 140737488355328) :
    Calls Tryz.prog 50 #[.func (.func 62) #[] #[.pointer (some ⟨w.heap.size, 0, none⟩)]] (w.alloc (.cells #[.map (some b)] 53)) fun e w' => ∃ (v : Value) (ss : List (List UInt8)), e = .returned v ∧ ss.Perm (strKeys D0) ∧
      w'.ownsRow (w.alloc (.cells #[.map (some b)] 53)).heap.size 9 1 v ss.length ((ss.mergeSort (fun x y => decide (x ≤ y))).map encStr) ∧ (v = .slice none 0 0 ↔ ss = []) ∧ Below (w.alloc (.cells #[.map (some b)] 53)).heap.size (w.alloc (.cells #[.map (some b)] 53)) w' := by
  have hbl := hown.lt
  have hseq : SeqGives Fence.wide 2 Tryz.prog 62 #[.pointer (some ⟨w.heap.size, 0, none⟩)] encStr (fun ss => ss.Perm (strKeys D0)) (Maps.size D0) (w.alloc (.cells #[.map (some b)] 53)) :=
    AnyZ.keys_gives (ρ := Tryz.keys51_ren) { Tryz.keys51 with } Fence.wide _ trivial rfl (by omega) w.heap.size b nn D0 _ (by simp) (by simp) (by
      obtain ⟨es, clock, hb, Ft, hs, hD⟩ := hown
      exact ⟨es, clock, (Below.heap_alloc _ _ b hbl).trans hb, Ft, hs, hD⟩)
  exact callsIn_wide.1 (AnyZ.sorted_in Tryz.sorted50 Fence.wide 5 trivial trivial trivial trivial rfl (by omega) (sorts_at _) (enters_of Tryz.func61 (by kernel_rfl) rfl) 62 #[.pointer (some ⟨w.heap.size, 0, none⟩)] trivial (enters_of Tryz.func62 (by kernel_rfl) rfl) _ _ hmax hbytes _ hseq)
end Go.Proofs.YtikhboebmmmopaaGreatDoor.Ext
