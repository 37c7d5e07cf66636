/-
 maps.Keys, slices.Sorted and slices.Sort at this program's map and at texts: the shelf's contracts, laid by the kit's tools in plain words.
-/
import Derived.Shelf.SlIter.Nil
import Derived.Shelf.SortM.Plain
import Derived.Shelf.SortM.SortNone
import Derived.Ground.GgzProg
import Derived.Ground.SlgmProg
import Derived.Shelf.SlGeneric
import Derived.Test.YtjdgdmlhipbaaaaDoorProg
namespace Go.Proofs
open Go.RowKit Go.Maps Go.Sort Go.Shelf
def Tryd.dk_keys_ren : Go.Shelf.Ren := ⟨fun | 7 => 28 | 10 => 46 | n => n, fun | 23 => 50 | 26 => 9 | 3 => 63 | 28 => 61 | 0 => 0 | 27 => 60 | 33 => 58 | 4 => 4 | n => n, fun | n => n⟩
theorem Tryd.dk_keys : Go.Proofs.SlLaysZ.n7 Tryd.prog Tryd.dk_keys_ren := {
 mixed := by kernel_rfl
 f7 := ⟨Tryd.f28.name, by decide, Tryd.func28.trans (congrArg some (by kernel_rfl))⟩
 f10 := ⟨Tryd.f46.name, by decide, Tryd.func46.trans (congrArg some (by kernel_rfl))⟩
 t0 := Tryd.underlying0
 a0 := Tryd.isAgg0
 z0 := Tryd.sizeOf0
 v0 := Tryd.zeroValue0
 t4 := Tryd.underlying4
 a4 := Tryd.isAgg4
 z4 := Tryd.sizeOf4
 v4 := Tryd.zeroValue4
 t23 := Tryd.underlying50
 a23 := Tryd.isAgg50
 z23 := Tryd.sizeOf50
 v23 := Tryd.zeroValue50
 t26 := Tryd.underlying9
 a26 := Tryd.isAgg9
 z26 := Tryd.sizeOf9
 v26 := Tryd.zeroValue9
 t27 := Tryd.underlying60
 a27 := Tryd.isAgg60
 z27 := Tryd.sizeOf60
 v27 := Tryd.zeroValue60
 t28 := Tryd.underlying61
 a28 := Tryd.isAgg61
 z28 := Tryd.sizeOf61
 v28 := Tryd.zeroValue61
 t33 := Tryd.underlying58
 a33 := Tryd.isAgg58
 z33 := Tryd.sizeOf58
 v33 := Tryd.zeroValue58 }
def Tryd.dk_sorted_ren : Go.Shelf.Ren := ⟨fun | 6 => 27 | 8 => 44 | 9 => 45 | 11 => 61 | 13 => 63 | 12 => 62 | 23 => 81 | 24 => 82 | 14 => 72 | 15 => 73 | 16 => 74 | 17 => 75 | 18 => 76 | 19 => 77 | 20 => 78 | 21 => 79 | 22 => 80 | 25 => 90 | 26 => 91 | 27 => 92 | 28 => 93 | 29 => 94 | 30 => 95 | 31 => 100 | n => n, fun | 26 => 9 | 28 => 61 | 24 => 35 | 0 => 0 | 3 => 3 | 37 => 83 | 48 => 81 | 50 => 71 | 4 => 4 | 40 => 117 | 39 => 116 | 45 => 121 | 5 => 5 | 9 => 9 | 51 => 132 | 55 => 136 | 57 => 146 | 58 => 147 | 33 => 58 | n => n, fun | n => n⟩
theorem Tryd.dk_sorted : Go.Proofs.SlLaysZ.n6 Tryd.prog Tryd.dk_sorted_ren := {
 mixed := by kernel_rfl
 f6 := ⟨Tryd.f27.name, by decide, Tryd.func27.trans (congrArg some (by kernel_rfl))⟩
 f8 := ⟨Tryd.f44.name, by decide, Tryd.func44.trans (congrArg some (by kernel_rfl))⟩
 f11 := ⟨Tryd.f61.name, by decide, Tryd.func61.trans (congrArg some (by kernel_rfl))⟩
 t0 := Tryd.underlying0
 a0 := Tryd.isAgg0
 z0 := Tryd.sizeOf0
 v0 := Tryd.zeroValue0
 t24 := Tryd.underlying35
 a24 := Tryd.isAgg35
 z24 := Tryd.sizeOf35
 v24 := Tryd.zeroValue35
 t26 := Tryd.underlying9
 a26 := Tryd.isAgg9
 z26 := Tryd.sizeOf9
 v26 := Tryd.zeroValue9
 t28 := Tryd.underlying61
 a28 := Tryd.isAgg61
 z28 := Tryd.sizeOf61
 v28 := Tryd.zeroValue61
 i26 := by kernel_rfl }
def Tryd.dk_sort_ren : Go.Shelf.Ren := ⟨fun | 6 => 45 | 8 => 63 | 9 => 62 | 19 => 81 | 20 => 82 | 21 => 72 | 22 => 73 | 23 => 74 | 24 => 75 | 25 => 76 | 26 => 77 | 27 => 78 | 28 => 79 | 29 => 80 | 36 => 90 | 31 => 91 | 32 => 92 | 37 => 93 | 38 => 94 | 39 => 95 | 41 => 100 | n => n, fun | 27 => 35 | 29 => 9 | 3 => 3 | 32 => 83 | 26 => 35 | 0 => 0 | 44 => 81 | 46 => 71 | 4 => 4 | 36 => 117 | 35 => 116 | 41 => 121 | 5 => 5 | 9 => 9 | 53 => 132 | 57 => 136 | 63 => 146 | 64 => 147 | n => n, fun | n => n⟩
theorem Tryd.dk_sort : Go.Proofs.SlLaysM.n6 Tryd.prog Tryd.dk_sort_ren := {
 mixed := by kernel_rfl
 f6 := ⟨Tryd.f45.name, by decide, Tryd.func45.trans (congrArg some (by kernel_rfl))⟩
 f8 := Tryd.func63.trans (congrArg some (by kernel_rfl))
 f9 := ⟨Tryd.f62.name, by decide, Tryd.func62.trans (congrArg some (by kernel_rfl))⟩
 f19 := Tryd.func81.trans (congrArg some (by kernel_rfl))
 f20 := Tryd.func82.trans (congrArg some (by kernel_rfl))
 f21 := ⟨Tryd.f72.name, by decide, Tryd.func72.trans (congrArg some (by kernel_rfl))⟩
 f22 := ⟨Tryd.f73.name, by decide, Tryd.func73.trans (congrArg some (by kernel_rfl))⟩
 f23 := ⟨Tryd.f74.name, by decide, Tryd.func74.trans (congrArg some (by kernel_rfl))⟩
 f24 := ⟨Tryd.f75.name, by decide, Tryd.func75.trans (congrArg some (by kernel_rfl))⟩
 f25 := ⟨Tryd.f76.name, by decide, Tryd.func76.trans (congrArg some (by kernel_rfl))⟩
 f26 := ⟨Tryd.f77.name, by decide, Tryd.func77.trans (congrArg some (by kernel_rfl))⟩
 f27 := ⟨Tryd.f78.name, by decide, Tryd.func78.trans (congrArg some (by kernel_rfl))⟩
 f28 := ⟨Tryd.f79.name, by decide, Tryd.func79.trans (congrArg some (by kernel_rfl))⟩
 f29 := ⟨Tryd.f80.name, by decide, Tryd.func80.trans (congrArg some (by kernel_rfl))⟩
 f31 := Tryd.func91.trans (congrArg some (by kernel_rfl))
 f32 := Tryd.func92.trans (congrArg some (by kernel_rfl))
 f36 := ⟨Tryd.f90.name, by decide, Tryd.func90.trans (congrArg some (by kernel_rfl))⟩
 f37 := ⟨Tryd.f93.name, by decide, Tryd.func93.trans (congrArg some (by kernel_rfl))⟩
 f38 := ⟨Tryd.f94.name, by decide, Tryd.func94.trans (congrArg some (by kernel_rfl))⟩
 f39 := ⟨Tryd.f95.name, by decide, Tryd.func95.trans (congrArg some (by kernel_rfl))⟩
 f41 := ⟨Tryd.f100.name, by decide, Tryd.func100.trans (congrArg some (by kernel_rfl))⟩
 t0 := Tryd.underlying0
 a0 := Tryd.isAgg0
 z0 := Tryd.sizeOf0
 v0 := Tryd.zeroValue0
 t3 := Tryd.underlying3
 a3 := Tryd.isAgg3
 z3 := Tryd.sizeOf3
 v3 := Tryd.zeroValue3
 t4 := Tryd.underlying4
 a4 := Tryd.isAgg4
 z4 := Tryd.sizeOf4
 v4 := Tryd.zeroValue4
 t5 := Tryd.underlying5
 a5 := Tryd.isAgg5
 z5 := Tryd.sizeOf5
 v5 := Tryd.zeroValue5
 t9 := Tryd.underlying9
 a9 := Tryd.isAgg9
 z9 := Tryd.sizeOf9
 v9 := Tryd.zeroValue9
 t26 := Tryd.underlying35
 a26 := Tryd.isAgg35
 z26 := Tryd.sizeOf35
 v26 := Tryd.zeroValue35
 t27 := Tryd.underlying35
 a27 := Tryd.isAgg35
 z27 := Tryd.sizeOf35
 v27 := Tryd.zeroValue35
 t29 := Tryd.underlying9
 a29 := Tryd.isAgg9
 z29 := Tryd.sizeOf9
 v29 := Tryd.zeroValue9
 t32 := Tryd.underlying83
 a32 := Tryd.isAgg83
 z32 := Tryd.sizeOf83
 v32 := Tryd.zeroValue83
 t35 := Tryd.underlying116
 a35 := Tryd.isAgg116
 z35 := Tryd.sizeOf116
 v35 := Tryd.zeroValue116
 t36 := Tryd.underlying117
 a36 := Tryd.isAgg117
 z36 := Tryd.sizeOf117
 v36 := Tryd.zeroValue117
 t41 := Tryd.underlying121
 a41 := Tryd.isAgg121
 z41 := Tryd.sizeOf121
 v41 := Tryd.zeroValue121
 t44 := Tryd.underlying81
 a44 := Tryd.isAgg81
 z44 := Tryd.sizeOf81
 v44 := Tryd.zeroValue81
 t46 := Tryd.underlying71
 a46 := Tryd.isAgg71
 z46 := Tryd.sizeOf71
 v46 := Tryd.zeroValue71
 t53 := Tryd.underlying132
 a53 := Tryd.isAgg132
 z53 := Tryd.sizeOf132
 v53 := Tryd.zeroValue132
 t57 := Tryd.underlying136
 a57 := Tryd.isAgg136
 z57 := Tryd.sizeOf136
 v57 := Tryd.zeroValue136
 t63 := Tryd.underlying146
 a63 := Tryd.isAgg146
 z63 := Tryd.sizeOf146
 v63 := Tryd.zeroValue146
 t64 := Tryd.underlying147
 a64 := Tryd.isAgg147
 z64 := Tryd.sizeOf147
 v64 := Tryd.zeroValue147 }
theorem Tryd.dk_sorts (m : Nat) : AnyZ.SortsIn Tryd.prog Tryd.dk_sorted_ren Fence.wide m :=
 ⟨fun blk off cap ss W hH hblk hsz => callsIn_wide.2 (AnyM.slices_Sort_string Tryd.dk_sort blk off cap ss W hH hblk hsz),
  fun p cap W => callsIn_wide.2 (AnyM.slices_Sort_string_none Tryd.dk_sort p cap W)⟩
theorem Tryd.dk_maps_Keys (mb : Option Nat) (W : World) : CallsIn Fence.wide 5 Tryd.prog 28 #[.map mb] W fun e w' => e = .returned (.func (.func 46) #[] #[.pointer (some ⟨W.heap.size, 0, none⟩)]) ∧ w' = W.alloc (.cells #[.map mb] 50) :=
 AnyZ.keys_in Tryd.dk_keys Fence.wide 5 trivial rfl mb W
set_option maxHeartbeats 1000000 in
theorem Tryd.dk_sorted_keys {H : Type} (b nn : Nat) (D0 : DataW H) (R : Value → Option (DataW H × List MemPlace)) (w : World) (hown : w.ownsMap Tryd.prog 9 R b nn D0) (hmax : Maps.size D0 ≤ maxLen) (hbytes : Maps.size D0 * 16 ≤ 140737488355328) :
  CallsIn Fence.wide 5 Tryd.prog 27 #[.func (.func 46) #[] #[.pointer (some ⟨w.heap.size, 0, none⟩)]] (w.alloc (.cells #[.map (some b)] 50)) fun e w' => ∃ (v : Value) (ss : List (List UInt8)), e = .returned v ∧ ss.Perm (strKeys D0) ∧
   w'.ownsRow (w.alloc (.cells #[.map (some b)] 50)).heap.size 9 1 v ss.length ((ss.mergeSort (fun x y => decide (x ≤ y))).map encStr) ∧ (v = .slice none 0 0 ↔ ss = []) ∧ Below (w.alloc (.cells #[.map (some b)] 50)).heap.size (w.alloc (.cells #[.map (some b)] 50)) w' := by
 have hbl := hown.lt
 have hseq : SeqGives Fence.wide 2 Tryd.prog 46 #[.pointer (some ⟨w.heap.size, 0, none⟩)] encStr (fun ss => ss.Perm (strKeys D0)) (Maps.size D0) (w.alloc (.cells #[.map (some b)] 50)) :=
  AnyZ.keys_gives (ρ := Tryd.dk_keys_ren) { Tryd.dk_keys with } Fence.wide _ trivial rfl (by omega) w.heap.size b nn D0 _ (by simp) (by simp) (by
   obtain ⟨es, clock, hb, Ft, hs, hD⟩ := hown
   exact ⟨es, clock, (Below.heap_alloc _ _ b hbl).trans hb, Ft, hs, hD⟩)
 exact AnyZ.sorted_in Tryd.dk_sorted Fence.wide 5 trivial trivial trivial trivial rfl (by omega) (Tryd.dk_sorts _) (enters_of Tryd.func45 (by kernel_rfl) rfl) 46 #[.pointer (some ⟨w.heap.size, 0, none⟩)] trivial (enters_of Tryd.func46 (by kernel_rfl) rfl) _ _ hmax hbytes _ hseq

end Go.Proofs
