/-
 maps.Keys, slices.Sorted and slices.Sort at this program's map and at texts: the shelf's contracts, laid by the kit's tools in plain words.
-/
import Derived.Shelf.SlIter.Nil
import Derived.Shelf.SortM.Plain
import Derived.Shelf.SortM.SortNone
import Derived.Ground.GgzProg
import Derived.Ground.SlgmProg
import Derived.Shelf.SlGeneric
import Derived.Test.YtnkbphecabnnaaaGreatDoorProg
namespace Go.Proofs
open Go.RowKit Go.Maps Go.Sort Go.Shelf
def Tryz.dk_keys_ren : Go.Shelf.Ren := ⟨fun | 7 => 54 | 10 => 74 | n => n, fun | 23 => 57 | 26 => 9 | 3 => 61 | 28 => 101 | 0 => 0 | 27 => 100 | 33 => 60 | 4 => 4 | n => n, fun | n => n⟩
theorem Tryz.dk_keys : Go.Proofs.SlLaysZ.n7 Tryz.prog Tryz.dk_keys_ren := {
 mixed := by kernel_rfl
 f7 := ⟨Tryz.f54.name, by decide, Tryz.func54.trans (congrArg some (by kernel_rfl))⟩
 f10 := ⟨Tryz.f74.name, by decide, Tryz.func74.trans (congrArg some (by kernel_rfl))⟩
 t0 := Tryz.underlying0
 a0 := Tryz.isAgg0
 z0 := Tryz.sizeOf0
 v0 := Tryz.zeroValue0
 t4 := Tryz.underlying4
 a4 := Tryz.isAgg4
 z4 := Tryz.sizeOf4
 v4 := Tryz.zeroValue4
 t23 := Tryz.underlying57
 a23 := Tryz.isAgg57
 z23 := Tryz.sizeOf57
 v23 := Tryz.zeroValue57
 t26 := Tryz.underlying9
 a26 := Tryz.isAgg9
 z26 := Tryz.sizeOf9
 v26 := Tryz.zeroValue9
 t27 := Tryz.underlying100
 a27 := Tryz.isAgg100
 z27 := Tryz.sizeOf100
 v27 := Tryz.zeroValue100
 t28 := Tryz.underlying101
 a28 := Tryz.isAgg101
 z28 := Tryz.sizeOf101
 v28 := Tryz.zeroValue101
 t33 := Tryz.underlying60
 a33 := Tryz.isAgg60
 z33 := Tryz.sizeOf60
 v33 := Tryz.zeroValue60 }
def Tryz.dk_sorted_ren : Go.Shelf.Ren := ⟨fun | 6 => 53 | 8 => 72 | 9 => 73 | 11 => 86 | 13 => 88 | 12 => 87 | 23 => 111 | 24 => 112 | 14 => 102 | 15 => 103 | 16 => 104 | 17 => 105 | 18 => 106 | 19 => 107 | 20 => 108 | 21 => 109 | 22 => 110 | 25 => 119 | 26 => 120 | 27 => 121 | 28 => 122 | 29 => 123 | 30 => 124 | 31 => 127 | n => n, fun | 26 => 9 | 28 => 101 | 24 => 23 | 0 => 0 | 3 => 3 | 37 => 109 | 48 => 97 | 50 => 81 | 4 => 4 | 40 => 158 | 39 => 157 | 45 => 70 | 5 => 5 | 9 => 9 | 51 => 172 | 55 => 176 | 57 => 181 | 58 => 182 | 33 => 60 | n => n, fun | n => n⟩
theorem Tryz.dk_sorted : Go.Proofs.SlLaysZ.n6 Tryz.prog Tryz.dk_sorted_ren := {
 mixed := by kernel_rfl
 f6 := ⟨Tryz.f53.name, by decide, Tryz.func53.trans (congrArg some (by kernel_rfl))⟩
 f8 := ⟨Tryz.f72.name, by decide, Tryz.func72.trans (congrArg some (by kernel_rfl))⟩
 f11 := ⟨Tryz.f86.name, by decide, Tryz.func86.trans (congrArg some (by kernel_rfl))⟩
 t0 := Tryz.underlying0
 a0 := Tryz.isAgg0
 z0 := Tryz.sizeOf0
 v0 := Tryz.zeroValue0
 t24 := Tryz.underlying23
 a24 := Tryz.isAgg23
 z24 := Tryz.sizeOf23
 v24 := Tryz.zeroValue23
 t26 := Tryz.underlying9
 a26 := Tryz.isAgg9
 z26 := Tryz.sizeOf9
 v26 := Tryz.zeroValue9
 t28 := Tryz.underlying101
 a28 := Tryz.isAgg101
 z28 := Tryz.sizeOf101
 v28 := Tryz.zeroValue101
 i26 := by kernel_rfl }
def Tryz.dk_sort_ren : Go.Shelf.Ren := ⟨fun | 6 => 73 | 8 => 88 | 9 => 87 | 19 => 111 | 20 => 112 | 21 => 102 | 22 => 103 | 23 => 104 | 24 => 105 | 25 => 106 | 26 => 107 | 27 => 108 | 28 => 109 | 29 => 110 | 36 => 119 | 31 => 120 | 32 => 121 | 37 => 122 | 38 => 123 | 39 => 124 | 41 => 127 | n => n, fun | 27 => 23 | 29 => 9 | 3 => 3 | 32 => 109 | 26 => 23 | 0 => 0 | 44 => 97 | 46 => 81 | 4 => 4 | 36 => 158 | 35 => 157 | 41 => 70 | 5 => 5 | 9 => 9 | 53 => 172 | 57 => 176 | 63 => 181 | 64 => 182 | n => n, fun | n => n⟩
theorem Tryz.dk_sort : Go.Proofs.SlLaysM.n6 Tryz.prog Tryz.dk_sort_ren := {
 mixed := by kernel_rfl
 f6 := ⟨Tryz.f73.name, by decide, Tryz.func73.trans (congrArg some (by kernel_rfl))⟩
 f8 := Tryz.func88.trans (congrArg some (by kernel_rfl))
 f9 := ⟨Tryz.f87.name, by decide, Tryz.func87.trans (congrArg some (by kernel_rfl))⟩
 f19 := Tryz.func111.trans (congrArg some (by kernel_rfl))
 f20 := Tryz.func112.trans (congrArg some (by kernel_rfl))
 f21 := ⟨Tryz.f102.name, by decide, Tryz.func102.trans (congrArg some (by kernel_rfl))⟩
 f22 := ⟨Tryz.f103.name, by decide, Tryz.func103.trans (congrArg some (by kernel_rfl))⟩
 f23 := ⟨Tryz.f104.name, by decide, Tryz.func104.trans (congrArg some (by kernel_rfl))⟩
 f24 := ⟨Tryz.f105.name, by decide, Tryz.func105.trans (congrArg some (by kernel_rfl))⟩
 f25 := ⟨Tryz.f106.name, by decide, Tryz.func106.trans (congrArg some (by kernel_rfl))⟩
 f26 := ⟨Tryz.f107.name, by decide, Tryz.func107.trans (congrArg some (by kernel_rfl))⟩
 f27 := ⟨Tryz.f108.name, by decide, Tryz.func108.trans (congrArg some (by kernel_rfl))⟩
 f28 := ⟨Tryz.f109.name, by decide, Tryz.func109.trans (congrArg some (by kernel_rfl))⟩
 f29 := ⟨Tryz.f110.name, by decide, Tryz.func110.trans (congrArg some (by kernel_rfl))⟩
 f31 := Tryz.func120.trans (congrArg some (by kernel_rfl))
 f32 := Tryz.func121.trans (congrArg some (by kernel_rfl))
 f36 := ⟨Tryz.f119.name, by decide, Tryz.func119.trans (congrArg some (by kernel_rfl))⟩
 f37 := ⟨Tryz.f122.name, by decide, Tryz.func122.trans (congrArg some (by kernel_rfl))⟩
 f38 := ⟨Tryz.f123.name, by decide, Tryz.func123.trans (congrArg some (by kernel_rfl))⟩
 f39 := ⟨Tryz.f124.name, by decide, Tryz.func124.trans (congrArg some (by kernel_rfl))⟩
 f41 := ⟨Tryz.f127.name, by decide, Tryz.func127.trans (congrArg some (by kernel_rfl))⟩
 t0 := Tryz.underlying0
 a0 := Tryz.isAgg0
 z0 := Tryz.sizeOf0
 v0 := Tryz.zeroValue0
 t3 := Tryz.underlying3
 a3 := Tryz.isAgg3
 z3 := Tryz.sizeOf3
 v3 := Tryz.zeroValue3
 t4 := Tryz.underlying4
 a4 := Tryz.isAgg4
 z4 := Tryz.sizeOf4
 v4 := Tryz.zeroValue4
 t5 := Tryz.underlying5
 a5 := Tryz.isAgg5
 z5 := Tryz.sizeOf5
 v5 := Tryz.zeroValue5
 t9 := Tryz.underlying9
 a9 := Tryz.isAgg9
 z9 := Tryz.sizeOf9
 v9 := Tryz.zeroValue9
 t26 := Tryz.underlying23
 a26 := Tryz.isAgg23
 z26 := Tryz.sizeOf23
 v26 := Tryz.zeroValue23
 t27 := Tryz.underlying23
 a27 := Tryz.isAgg23
 z27 := Tryz.sizeOf23
 v27 := Tryz.zeroValue23
 t29 := Tryz.underlying9
 a29 := Tryz.isAgg9
 z29 := Tryz.sizeOf9
 v29 := Tryz.zeroValue9
 t32 := Tryz.underlying109
 a32 := Tryz.isAgg109
 z32 := Tryz.sizeOf109
 v32 := Tryz.zeroValue109
 t35 := Tryz.underlying157
 a35 := Tryz.isAgg157
 z35 := Tryz.sizeOf157
 v35 := Tryz.zeroValue157
 t36 := Tryz.underlying158
 a36 := Tryz.isAgg158
 z36 := Tryz.sizeOf158
 v36 := Tryz.zeroValue158
 t41 := Tryz.underlying70
 a41 := Tryz.isAgg70
 z41 := Tryz.sizeOf70
 v41 := Tryz.zeroValue70
 t44 := Tryz.underlying97
 a44 := Tryz.isAgg97
 z44 := Tryz.sizeOf97
 v44 := Tryz.zeroValue97
 t46 := Tryz.underlying81
 a46 := Tryz.isAgg81
 z46 := Tryz.sizeOf81
 v46 := Tryz.zeroValue81
 t53 := Tryz.underlying172
 a53 := Tryz.isAgg172
 z53 := Tryz.sizeOf172
 v53 := Tryz.zeroValue172
 t57 := Tryz.underlying176
 a57 := Tryz.isAgg176
 z57 := Tryz.sizeOf176
 v57 := Tryz.zeroValue176
 t63 := Tryz.underlying181
 a63 := Tryz.isAgg181
 z63 := Tryz.sizeOf181
 v63 := Tryz.zeroValue181
 t64 := Tryz.underlying182
 a64 := Tryz.isAgg182
 z64 := Tryz.sizeOf182
 v64 := Tryz.zeroValue182 }
theorem Tryz.dk_sorts (m : Nat) : AnyZ.SortsIn Tryz.prog Tryz.dk_sorted_ren Fence.wide m :=
 ⟨fun blk off cap ss W hH hblk hsz => callsIn_wide.2 (AnyM.slices_Sort_string Tryz.dk_sort blk off cap ss W hH hblk hsz),
  fun p cap W => callsIn_wide.2 (AnyM.slices_Sort_string_none Tryz.dk_sort p cap W)⟩
theorem Tryz.dk_maps_Keys (mb : Option Nat) (W : World) : CallsIn Fence.wide 5 Tryz.prog 54 #[.map mb] W fun e w' => e = .returned (.func (.func 74) #[] #[.pointer (some ⟨W.heap.size, 0, none⟩)]) ∧ w' = W.alloc (.cells #[.map mb] 57) :=
 AnyZ.keys_in Tryz.dk_keys Fence.wide 5 trivial rfl mb W
set_option maxHeartbeats 1000000 in
theorem Tryz.dk_sorted_keys {H : Type} (b nn : Nat) (D0 : DataW H) (R : Value → Option (DataW H × List MemPlace)) (w : World) (hown : w.ownsMap Tryz.prog 9 R b nn D0) (hmax : Maps.size D0 ≤ maxLen) (hbytes : Maps.size D0 * 16 ≤ 140737488355328) :
  CallsIn Fence.wide 5 Tryz.prog 53 #[.func (.func 74) #[] #[.pointer (some ⟨w.heap.size, 0, none⟩)]] (w.alloc (.cells #[.map (some b)] 57)) fun e w' => ∃ (v : Value) (ss : List (List UInt8)), e = .returned v ∧ ss.Perm (strKeys D0) ∧
   w'.ownsRow (w.alloc (.cells #[.map (some b)] 57)).heap.size 9 1 v ss.length ((ss.mergeSort (fun x y => decide (x ≤ y))).map encStr) ∧ (v = .slice none 0 0 ↔ ss = []) ∧ Below (w.alloc (.cells #[.map (some b)] 57)).heap.size (w.alloc (.cells #[.map (some b)] 57)) w' := by
 have hbl := hown.lt
 have hseq : SeqGives Fence.wide 2 Tryz.prog 74 #[.pointer (some ⟨w.heap.size, 0, none⟩)] encStr (fun ss => ss.Perm (strKeys D0)) (Maps.size D0) (w.alloc (.cells #[.map (some b)] 57)) :=
  AnyZ.keys_gives (ρ := Tryz.dk_keys_ren) { Tryz.dk_keys with } Fence.wide _ trivial rfl (by omega) w.heap.size b nn D0 _ (by simp) (by simp) (by
   obtain ⟨es, clock, hb, Ft, hs, hD⟩ := hown
   exact ⟨es, clock, (Below.heap_alloc _ _ b hbl).trans hb, Ft, hs, hD⟩)
 exact AnyZ.sorted_in Tryz.dk_sorted Fence.wide 5 trivial trivial trivial trivial rfl (by omega) (Tryz.dk_sorts _) (enters_of Tryz.func73 (by kernel_rfl) rfl) 74 #[.pointer (some ⟨w.heap.size, 0, none⟩)] trivial (enters_of Tryz.func74 (by kernel_rfl) rfl) _ _ hmax hbytes _ hseq

end Go.Proofs
