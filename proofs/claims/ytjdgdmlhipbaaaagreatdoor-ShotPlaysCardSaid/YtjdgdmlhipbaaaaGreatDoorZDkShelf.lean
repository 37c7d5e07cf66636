/-
 maps.Keys, slices.Sorted and slices.Sort at this program's map and at texts: the shelf's contracts, laid by the kit's tools in plain words.
-/
import Derived.Shelf.SlIter.Nil
import Derived.Shelf.SortM.Plain
import Derived.Shelf.SortM.SortNone
import Derived.Ground.GgzProg
import Derived.Ground.SlgmProg
import Derived.Shelf.SlGeneric
import Derived.Test.YtjdgdmlhipbaaaaGreatDoorProg
namespace Go.Proofs
open Go.RowKit Go.Maps Go.Sort Go.Shelf
def Tryz.dk_keys_ren : Go.Shelf.Ren := ⟨fun | 7 => 49 | 10 => 72 | n => n, fun | 23 => 58 | 26 => 9 | 3 => 73 | 28 => 83 | 0 => 0 | 27 => 82 | 33 => 70 | 4 => 4 | n => n, fun | n => n⟩
theorem Tryz.dk_keys : Go.Proofs.SlLaysZ.n7 Tryz.prog Tryz.dk_keys_ren := {
 mixed := by kernel_rfl
 f7 := ⟨Tryz.f49.name, by decide, Tryz.func49.trans (congrArg some (by kernel_rfl))⟩
 f10 := ⟨Tryz.f72.name, by decide, Tryz.func72.trans (congrArg some (by kernel_rfl))⟩
 t0 := Tryz.underlying0
 a0 := Tryz.isAgg0
 z0 := Tryz.sizeOf0
 v0 := Tryz.zeroValue0
 t4 := Tryz.underlying4
 a4 := Tryz.isAgg4
 z4 := Tryz.sizeOf4
 v4 := Tryz.zeroValue4
 t23 := Tryz.underlying58
 a23 := Tryz.isAgg58
 z23 := Tryz.sizeOf58
 v23 := Tryz.zeroValue58
 t26 := Tryz.underlying9
 a26 := Tryz.isAgg9
 z26 := Tryz.sizeOf9
 v26 := Tryz.zeroValue9
 t27 := Tryz.underlying82
 a27 := Tryz.isAgg82
 z27 := Tryz.sizeOf82
 v27 := Tryz.zeroValue82
 t28 := Tryz.underlying83
 a28 := Tryz.isAgg83
 z28 := Tryz.sizeOf83
 v28 := Tryz.zeroValue83
 t33 := Tryz.underlying70
 a33 := Tryz.isAgg70
 z33 := Tryz.sizeOf70
 v33 := Tryz.zeroValue70 }
def Tryz.dk_sorted_ren : Go.Shelf.Ren := ⟨fun | 6 => 48 | 8 => 70 | 9 => 71 | 11 => 90 | 13 => 92 | 12 => 91 | 23 => 110 | 24 => 111 | 14 => 101 | 15 => 102 | 16 => 103 | 17 => 104 | 18 => 105 | 19 => 106 | 20 => 107 | 21 => 108 | 22 => 109 | 25 => 118 | 26 => 119 | 27 => 120 | 28 => 121 | 29 => 122 | 30 => 123 | 31 => 128 | n => n, fun | 26 => 9 | 28 => 83 | 24 => 55 | 0 => 0 | 3 => 3 | 37 => 99 | 48 => 97 | 50 => 76 | 4 => 4 | 40 => 141 | 39 => 140 | 45 => 145 | 5 => 5 | 9 => 9 | 51 => 160 | 55 => 164 | 57 => 170 | 58 => 171 | 33 => 70 | n => n, fun | n => n⟩
theorem Tryz.dk_sorted : Go.Proofs.SlLaysZ.n6 Tryz.prog Tryz.dk_sorted_ren := {
 mixed := by kernel_rfl
 f6 := ⟨Tryz.f48.name, by decide, Tryz.func48.trans (congrArg some (by kernel_rfl))⟩
 f8 := ⟨Tryz.f70.name, by decide, Tryz.func70.trans (congrArg some (by kernel_rfl))⟩
 f11 := ⟨Tryz.f90.name, by decide, Tryz.func90.trans (congrArg some (by kernel_rfl))⟩
 t0 := Tryz.underlying0
 a0 := Tryz.isAgg0
 z0 := Tryz.sizeOf0
 v0 := Tryz.zeroValue0
 t24 := Tryz.underlying55
 a24 := Tryz.isAgg55
 z24 := Tryz.sizeOf55
 v24 := Tryz.zeroValue55
 t26 := Tryz.underlying9
 a26 := Tryz.isAgg9
 z26 := Tryz.sizeOf9
 v26 := Tryz.zeroValue9
 t28 := Tryz.underlying83
 a28 := Tryz.isAgg83
 z28 := Tryz.sizeOf83
 v28 := Tryz.zeroValue83
 i26 := by kernel_rfl }
def Tryz.dk_sort_ren : Go.Shelf.Ren := ⟨fun | 6 => 71 | 8 => 92 | 9 => 91 | 19 => 110 | 20 => 111 | 21 => 101 | 22 => 102 | 23 => 103 | 24 => 104 | 25 => 105 | 26 => 106 | 27 => 107 | 28 => 108 | 29 => 109 | 36 => 118 | 31 => 119 | 32 => 120 | 37 => 121 | 38 => 122 | 39 => 123 | 41 => 128 | n => n, fun | 27 => 55 | 29 => 9 | 3 => 3 | 32 => 99 | 26 => 55 | 0 => 0 | 44 => 97 | 46 => 76 | 4 => 4 | 36 => 141 | 35 => 140 | 41 => 145 | 5 => 5 | 9 => 9 | 53 => 160 | 57 => 164 | 63 => 170 | 64 => 171 | n => n, fun | n => n⟩
theorem Tryz.dk_sort : Go.Proofs.SlLaysM.n6 Tryz.prog Tryz.dk_sort_ren := {
 mixed := by kernel_rfl
 f6 := ⟨Tryz.f71.name, by decide, Tryz.func71.trans (congrArg some (by kernel_rfl))⟩
 f8 := Tryz.func92.trans (congrArg some (by kernel_rfl))
 f9 := ⟨Tryz.f91.name, by decide, Tryz.func91.trans (congrArg some (by kernel_rfl))⟩
 f19 := Tryz.func110.trans (congrArg some (by kernel_rfl))
 f20 := Tryz.func111.trans (congrArg some (by kernel_rfl))
 f21 := ⟨Tryz.f101.name, by decide, Tryz.func101.trans (congrArg some (by kernel_rfl))⟩
 f22 := ⟨Tryz.f102.name, by decide, Tryz.func102.trans (congrArg some (by kernel_rfl))⟩
 f23 := ⟨Tryz.f103.name, by decide, Tryz.func103.trans (congrArg some (by kernel_rfl))⟩
 f24 := ⟨Tryz.f104.name, by decide, Tryz.func104.trans (congrArg some (by kernel_rfl))⟩
 f25 := ⟨Tryz.f105.name, by decide, Tryz.func105.trans (congrArg some (by kernel_rfl))⟩
 f26 := ⟨Tryz.f106.name, by decide, Tryz.func106.trans (congrArg some (by kernel_rfl))⟩
 f27 := ⟨Tryz.f107.name, by decide, Tryz.func107.trans (congrArg some (by kernel_rfl))⟩
 f28 := ⟨Tryz.f108.name, by decide, Tryz.func108.trans (congrArg some (by kernel_rfl))⟩
 f29 := ⟨Tryz.f109.name, by decide, Tryz.func109.trans (congrArg some (by kernel_rfl))⟩
 f31 := Tryz.func119.trans (congrArg some (by kernel_rfl))
 f32 := Tryz.func120.trans (congrArg some (by kernel_rfl))
 f36 := ⟨Tryz.f118.name, by decide, Tryz.func118.trans (congrArg some (by kernel_rfl))⟩
 f37 := ⟨Tryz.f121.name, by decide, Tryz.func121.trans (congrArg some (by kernel_rfl))⟩
 f38 := ⟨Tryz.f122.name, by decide, Tryz.func122.trans (congrArg some (by kernel_rfl))⟩
 f39 := ⟨Tryz.f123.name, by decide, Tryz.func123.trans (congrArg some (by kernel_rfl))⟩
 f41 := ⟨Tryz.f128.name, by decide, Tryz.func128.trans (congrArg some (by kernel_rfl))⟩
 t0 := Tryz.underlying0
 a0 := Tryz.isAgg0
 z0 := Tryz.sizeOf0
 v0 := Tryz.zeroValue0
 t3 := Tryz.underlying3
 a3 := Tryz.isAgg3
 z3 := Tryz.sizeOf3
 v3 := Tryz.zeroValue3
 t4 := Tryz.underlying4
 a4 := Tryz.isAgg4
 z4 := Tryz.sizeOf4
 v4 := Tryz.zeroValue4
 t5 := Tryz.underlying5
 a5 := Tryz.isAgg5
 z5 := Tryz.sizeOf5
 v5 := Tryz.zeroValue5
 t9 := Tryz.underlying9
 a9 := Tryz.isAgg9
 z9 := Tryz.sizeOf9
 v9 := Tryz.zeroValue9
 t26 := Tryz.underlying55
 a26 := Tryz.isAgg55
 z26 := Tryz.sizeOf55
 v26 := Tryz.zeroValue55
 t27 := Tryz.underlying55
 a27 := Tryz.isAgg55
 z27 := Tryz.sizeOf55
 v27 := Tryz.zeroValue55
 t29 := Tryz.underlying9
 a29 := Tryz.isAgg9
 z29 := Tryz.sizeOf9
 v29 := Tryz.zeroValue9
 t32 := Tryz.underlying99
 a32 := Tryz.isAgg99
 z32 := Tryz.sizeOf99
 v32 := Tryz.zeroValue99
 t35 := Tryz.underlying140
 a35 := Tryz.isAgg140
 z35 := Tryz.sizeOf140
 v35 := Tryz.zeroValue140
 t36 := Tryz.underlying141
 a36 := Tryz.isAgg141
 z36 := Tryz.sizeOf141
 v36 := Tryz.zeroValue141
 t41 := Tryz.underlying145
 a41 := Tryz.isAgg145
 z41 := Tryz.sizeOf145
 v41 := Tryz.zeroValue145
 t44 := Tryz.underlying97
 a44 := Tryz.isAgg97
 z44 := Tryz.sizeOf97
 v44 := Tryz.zeroValue97
 t46 := Tryz.underlying76
 a46 := Tryz.isAgg76
 z46 := Tryz.sizeOf76
 v46 := Tryz.zeroValue76
 t53 := Tryz.underlying160
 a53 := Tryz.isAgg160
 z53 := Tryz.sizeOf160
 v53 := Tryz.zeroValue160
 t57 := Tryz.underlying164
 a57 := Tryz.isAgg164
 z57 := Tryz.sizeOf164
 v57 := Tryz.zeroValue164
 t63 := Tryz.underlying170
 a63 := Tryz.isAgg170
 z63 := Tryz.sizeOf170
 v63 := Tryz.zeroValue170
 t64 := Tryz.underlying171
 a64 := Tryz.isAgg171
 z64 := Tryz.sizeOf171
 v64 := Tryz.zeroValue171 }
theorem Tryz.dk_sorts (m : Nat) : AnyZ.SortsIn Tryz.prog Tryz.dk_sorted_ren Fence.wide m :=
 ⟨fun blk off cap ss W hH hblk hsz => callsIn_wide.2 (AnyM.slices_Sort_string Tryz.dk_sort blk off cap ss W hH hblk hsz),
  fun p cap W => callsIn_wide.2 (AnyM.slices_Sort_string_none Tryz.dk_sort p cap W)⟩
theorem Tryz.dk_maps_Keys (mb : Option Nat) (W : World) : CallsIn Fence.wide 5 Tryz.prog 49 #[.map mb] W fun e w' => e = .returned (.func (.func 72) #[] #[.pointer (some ⟨W.heap.size, 0, none⟩)]) ∧ w' = W.alloc (.cells #[.map mb] 58) :=
 AnyZ.keys_in Tryz.dk_keys Fence.wide 5 trivial rfl mb W
set_option maxHeartbeats 1000000 in
theorem Tryz.dk_sorted_keys {H : Type} (b nn : Nat) (D0 : DataW H) (R : Value → Option (DataW H × List MemPlace)) (w : World) (hown : w.ownsMap Tryz.prog 9 R b nn D0) (hmax : Maps.size D0 ≤ maxLen) (hbytes : Maps.size D0 * 16 ≤ 140737488355328) :
  CallsIn Fence.wide 5 Tryz.prog 48 #[.func (.func 72) #[] #[.pointer (some ⟨w.heap.size, 0, none⟩)]] (w.alloc (.cells #[.map (some b)] 58)) fun e w' => ∃ (v : Value) (ss : List (List UInt8)), e = .returned v ∧ ss.Perm (strKeys D0) ∧
   w'.ownsRow (w.alloc (.cells #[.map (some b)] 58)).heap.size 9 1 v ss.length ((ss.mergeSort (fun x y => decide (x ≤ y))).map encStr) ∧ (v = .slice none 0 0 ↔ ss = []) ∧ Below (w.alloc (.cells #[.map (some b)] 58)).heap.size (w.alloc (.cells #[.map (some b)] 58)) w' := by
 have hbl := hown.lt
 have hseq : SeqGives Fence.wide 2 Tryz.prog 72 #[.pointer (some ⟨w.heap.size, 0, none⟩)] encStr (fun ss => ss.Perm (strKeys D0)) (Maps.size D0) (w.alloc (.cells #[.map (some b)] 58)) :=
  AnyZ.keys_gives (ρ := Tryz.dk_keys_ren) { Tryz.dk_keys with } Fence.wide _ trivial rfl (by omega) w.heap.size b nn D0 _ (by simp) (by simp) (by
   obtain ⟨es, clock, hb, Ft, hs, hD⟩ := hown
   exact ⟨es, clock, (Below.heap_alloc _ _ b hbl).trans hb, Ft, hs, hD⟩)
 exact AnyZ.sorted_in Tryz.dk_sorted Fence.wide 5 trivial trivial trivial trivial rfl (by omega) (Tryz.dk_sorts _) (enters_of Tryz.func71 (by kernel_rfl) rfl) 72 #[.pointer (some ⟨w.heap.size, 0, none⟩)] trivial (enters_of Tryz.func72 (by kernel_rfl) rfl) _ _ hmax hbytes _ hseq

end Go.Proofs
