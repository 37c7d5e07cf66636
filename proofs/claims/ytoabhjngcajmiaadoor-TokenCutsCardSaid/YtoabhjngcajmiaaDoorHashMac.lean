/-
  hash.Mac. Condition: texts of at most 2^40 bytes.
-/
import Derived.Test.YtoabhjngcajmiaaDoorHashAll
import Derived.Test.YtoabhjngcajmiaaDoorMem4
import Derived.Lib.BufferWrite
import Derived.Deep.OwnRows
namespace Go.Proofs.YtoabhjngcajmiaaDoor
open Go.RowKit
set_option linter.unusedSimpArgs false
set_option linter.unusedVariables false

def padKey (key : List UInt8) : List UInt8 := key ++ List.replicate (64 - key.length) 0
def padBy (key : List UInt8) (x : UInt8) : List UInt8 := (padKey key).map (fun b => b ^^^ x)

theorem xor_byte (a b : UInt8) : bits BinOp.xor IntKind.u8 (a.toNat : Int) (b.toNat : Int) = ((a ^^^ b).toNat : Int) := by
  have h1 : ∀ a : UInt8, BitVec.ofInt 8 (a.toNat : Int) = a.toBitVec := fun a => by
    rw [BitVec.ofInt_natCast]; exact UInt8.ofBitVec_toBitVec a ▸ (by simp)
  show IntKind.u8.wrap ((BitVec.ofInt 8 (a.toNat : Int) ^^^ BitVec.ofInt 8 (b.toNat : Int)).toNat : Int) = _
  rw [h1, h1]
  have e : ((a.toBitVec ^^^ b.toBitVec).toNat : Int) = ((a ^^^ b).toNat : Int) := rfl
  rw [e]
  exact IntWalk.u8_in _ (by have := (a ^^^ b).toNat_lt; omega)
theorem Blk.row {w : World} {g : Nat} {t : TypeId} {xs : List Value} (h : Blk w g t xs.toArray) (hl : xs.length ≤ maxLen) : Row w 1 (some ⟨g, 0, none⟩) xs.length xs.length xs :=
  ⟨by simp, Nat.le_refl _, hl, (fun e => by cases e), fun ad e => by
    injection e with e
    subst e
    exact ⟨rfl, _, h.cells, by simp, by simp⟩⟩

theorem copy_key (key : List UInt8) (N : Nat) : ((List.replicate N (Value.int .u8 0)).take 0 ++ Lib.byteCells (⟨key.toArray⟩ : ByteArray).data.toList ++ (List.replicate N (Value.int .u8 0)).drop (0 + (⟨key.toArray⟩ : ByteArray).size)) = (key ++ List.replicate (N - key.length) 0).map bv := by
  simp [Lib.byteCells, ByteArray.size, List.drop_replicate]
  rfl

set_option maxRecDepth 100000 in
set_option maxHeartbeats 1000000 in
theorem padf_any (x : UInt8) (kb : Nat) (key : List UInt8) (w : World) (hc : w.cell? ⟨kb, 0, none⟩ = some (Str key)) (hk : key.length ≤ 64) :
    Calls Tryd.prog 29 #[.int .u8 (x.toNat : Int), .pointer (some ⟨kb, 0, none⟩)] w fun e w' => e = .returned (Str (padBy key x)) ∧ Step [] [] w w' := by
  obtain ⟨Z, hZ⟩ : ∃ Z, Z = madeCells #[Value.int .u8 0] 64 := ⟨_, rfl⟩
  have hmk : ∀ W, (Instr.makeSlice 31 (.int .i64 64) (.int .i64 64)).run Tryd.prog W = .ok (.slice (some ⟨W.heap.size, 0, none⟩) 64 64) (W.alloc (.cells Z 5)) := fun W => by
    rw [hZ]; exact run_make_row' (P := Tryd.prog) 31 5 (.int .u8 0) 1 Tryd.underlying31 Tryd.info_bytes rfl .i64 .i64 64 (by omega) (by omega) W
  have hkb := World.block_lt_of_cell? w _ hc
  have hkn : kb ≠ w.heap.size := by simp at hkb; omega
  obtain ⟨W1, hW1⟩ : ∃ W1, W1 = (w.alloc (.cells Z 5)).setRow w.heap.size ((padKey key).map bv).toArray := ⟨_, rfl⟩
  have hcp : (Builtin.copy_ #[31, 9] 3 #[.slice (some ⟨w.heap.size, 0, none⟩) 64 64, Str key]).run Tryd.prog (w.alloc (.cells Z 5)) = .ok (goInt key.length) W1 := by
    have h := Lib.run_copy_row_string (P := Tryd.prog) (w.alloc (.cells Z 5)) 31 9 3 5 w.heap.size 0 64 64 ⟨key.toArray⟩ Z 5 Tryd.underlying31 (by kernel_rfl) (Blk.new _ _ _) (show key.toArray.size ≤ 64 by simpa using hk) (by rw [hZ, size_madeCells, Nat.zero_add]; exact (show key.toArray.size ≤ 64 by simpa using hk))
    rw [hW1]
    refine h.trans ?_
    rw [hZ, toList_madeCells_one]
    have e1 := copy_key key 64
    rw [e1]
    rfl
  have hb1 : Blk W1 w.heap.size 5 ((padKey key).map bv).toArray := by rw [hW1]; exact (Blk.new w 5 Z).setRow _
  have hs1 : Step [] [] w W1 := by rw [hW1]; exact ((Step.refl [] w).alloc _).setRow (.inr (Nat.le_refl _)) _
  have H1 := Lib.hid (And.intro hb1 hs1)
  clear hZ hW1 hb1 hs1
  have hpl : (padKey key).length = 64 := by simp [padKey]; omega
  obtain ⟨PK, hPK⟩ : ∃ PK, PK = padKey key := ⟨_, rfl⟩
  have HPK := Lib.hid (And.intro hPK hpl)
  rw [← hPK] at H1
  clear hPK hpl
  go_enter Tryd.func29, Tryd.ntmps29
  go_wp2_with fail
  go_loopw [12] (fun i wr => ∃ k : Nat, k ≤ 64 ∧ i = .int .i64 k ∧ Hid (Blk wr w.heap.size 5 (((PK.take k).map (· ^^^ x) ++ PK.drop k).map bv).toArray ∧ Step [] [] w wr))
    (fun i _ => 64 - (intOf i).toNat)
  case atStart => exact ⟨0, by omega, rfl, H1.out⟩
  case round =>
    obtain ⟨k, hk', rfl, HW⟩ := hrel
    by_cases hlt : k < 64
    · have hlt' : (k : Int) < 64 := by omega
      obtain ⟨c, hcc⟩ : ∃ c, PK[k]? = some c := ⟨_, List.getElem?_eq_getElem (by rw [HPK.out.1, HPK.out.2]; exact hlt)⟩
      have hkl : k ≤ PK.length := by rw [HPK.out.1, HPK.out.2]; exact hk'
      have d0 : wr.cell? ⟨w.heap.size, k, none⟩ = some (.int .u8 (c.toNat : Int)) := by
        rw [HW.out.1.cell, List.getElem?_toArray, List.getElem?_map, List.getElem?_append_right (by simp; omega)]
        simp only [List.length_map, List.length_take, Nat.min_eq_left hkl, Nat.sub_self, List.getElem?_drop, Nat.add_zero, hcc]
        rfl
      have f0 := Blk.frozen HW.out.1 k
      have hxr := xor_byte c x
      go_wp2_with fail
      go_roundw
      case rel =>
        refine ⟨k + 1, by omega, by go_num, ?_, HW.out.2.setCell (.inr (Nat.le_refl _)) _⟩
        have := HW.out.1.set k (bv (c ^^^ x))
        have e : ((((PK.take k).map (· ^^^ x) ++ PK.drop k).map bv).toArray.setIfInBounds k (bv (c ^^^ x))) = ((((PK.take (k + 1)).map (· ^^^ x) ++ PK.drop (k + 1)).map bv)).toArray := by
          rw [List.setIfInBounds_toArray]
          congr 1
          have hd : PK.drop k = c :: PK.drop (k + 1) := by
            obtain ⟨h1, h2⟩ := List.getElem?_eq_some_iff.1 hcc
            rw [← h2]; exact List.drop_eq_getElem_cons h1
          rw [hd, List.take_add_one, hcc, List.map_append, List.map_cons]
          have := list_set_mid (((PK.take k).map (· ^^^ x)).map bv) ((PK.drop (k + 1)).map bv) (bv c) (bv (c ^^^ x))
          rw [List.length_map, List.length_map, List.length_take, Nat.min_eq_left hkl] at this
          rw [this]
          simp
        rw [e] at this
        exact this
      case measure => simp [intOf]; omega
    · obtain rfl : k = 64 := by omega
      go_wp2_with fail
      have hl64 : (((PK.take 64).map (· ^^^ x) ++ PK.drop 64).map bv).length = 64 := by
        have := HPK.out; rw [← this.1] at this; simp; omega
      have hrow := HW.out.1.row (by rw [hl64]; unfold maxLen; omega)
      rw [hl64] at hrow
      rw [run_str_of_row 31 9 5 Tryd.underlying31 Tryd.underlying5 Tryd.underlying9 hrow]
      rw [Result.andThen_ok, Oper.upon_value]
      have HRW := Lib.hid hrow
      clear hrow
      go_wp2_with fail
      refine bodyPost_ret (results_tmp rfl _ _ _) rfl ⟨?_, HW.out.2⟩
      have hpl : PK.length = 64 := by have := HPK.out; rw [← this.1] at this; exact this.2
      show Ending.returned (Str ((PK.map (· ^^^ x)).take 64 ++ PK.drop 64)) = _
      rw [List.take_of_length_le (by simp; omega), List.drop_of_length_le (by omega), List.append_nil, padBy, ← HPK.out.1]

/-- The key as the pads take it. -/
def macKey (key : List UInt8) : List UInt8 := if 64 < key.length then sha key else key
def macOf (key s : List UInt8) : List UInt8 := sha (padBy (macKey key) 92 ++ sha (padBy (macKey key) 54 ++ s))
theorem padBy_len (key : List UInt8) (x : UInt8) (h : key.length ≤ 64) : (padBy key x).length = 64 := by simp [padBy, padKey]; omega
theorem macKey_len (key : List UInt8) : (macKey key).length ≤ 64 := by
  unfold macKey
  split
  · rw [sha_len]; omega
  · omega
theorem padf92 (kb : Nat) (key : List UInt8) (w : World) (hc : w.cell? ⟨kb, 0, none⟩ = some (Str key)) (hk : key.length ≤ 64) :
    Calls Tryd.prog 29 #[.int .u8 92, .pointer (some ⟨kb, 0, none⟩)] w fun e w' => e = .returned (Str (padBy key 92)) ∧ Step [] [] w w' := padf_any 92 kb key w hc hk
theorem padf54 (kb : Nat) (key : List UInt8) (w : World) (hc : w.cell? ⟨kb, 0, none⟩ = some (Str key)) (hk : key.length ≤ 64) :
    Calls Tryd.prog 29 #[.int .u8 54, .pointer (some ⟨kb, 0, none⟩)] w fun e w' => e = .returned (Str (padBy key 54)) ∧ Step [] [] w w' := padf_any 54 kb key w hc hk

set_option maxRecDepth 100000 in
set_option maxHeartbeats 1000000 in
theorem mac_any (key s : List UInt8) (w : World) (hk : key.length ≤ 1099511627776) (hs : s.length ≤ 1099511627000) :
    Calls Tryd.prog 17 #[Str key, Str s] w fun e w' => e = .returned (Str (macOf key s)) ∧ Step [] [] w w' := by
  have hmf : ∀ (fn : Fn) (first cap : Array Value) (w : World), (Instr.makeFunc fn first cap).run Tryd.prog w = .ok (.func fn first cap) w := fun _ _ _ _ => rfl
  obtain ⟨mk, hmk⟩ : ∃ mk, mk = macKey key := ⟨_, rfl⟩
  have hl := macKey_len key
  rw [← hmk] at hl
  have h92 := padBy_len mk 92 hl
  have h54 := padBy_len mk 54 hl
  obtain ⟨A, hA⟩ : ∃ A, A = padBy mk 92 := ⟨_, rfl⟩
  obtain ⟨B, hB⟩ : ∃ B, B = padBy mk 54 := ⟨_, rfl⟩
  rw [← hA] at h92
  rw [← hB] at h54
  have HA := Lib.hid (And.intro hA (And.intro hB hmk))
  clear hA hB
  by_cases hlong : 64 < key.length
  · have hlong' : (64 : Int) < key.length := by omega
    have e0 : sha key = mk := by rw [HA.out.2.2, macKey, if_pos hlong]
    clear hmk
    go_enter Tryd.func17, Tryd.ntmps17
    go_wp2_with fail
    refine (sum_any key _ hk).mono ?_
    rintro e w2 ⟨rfl, k2⟩
    rw [e0]
    have b2 := (Blk.new w 9 #[Str key]).step k2 (by simp)
    have f2 := b2.frozen 0
    have c2 := b2.cell 0
    obtain ⟨W, hW⟩ : ∃ W, W = w2.setCell ⟨w.heap.size, 0, none⟩ (Str mk) := ⟨_, rfl⟩
    have hcW : W.cell? ⟨w.heap.size, 0, none⟩ = some (Str mk) := by rw [hW]; exact (b2.set 0 (Str mk)).cell 0
    have KW : Hid (Step [] [] w W) := by rw [hW]; exact (((Step.refl [] w).alloc _).trans k2).setCell (.inr (Nat.le_refl _)) _
    have HW := Lib.hid hW
    clear hW k2 b2
    simp at c2
    go_upto_region 3 with fail
    rw [← HW.out]
    clear c2 f2
    go_wp2_with fail
    refine (padf92 w.heap.size mk W hcW hl).mono ?_
    rintro e w3 ⟨rfl, k3⟩
    rw [← HA.out.1]
    have c3 := k3.cell hcW (by simp)
    have K3 := Lib.hid (KW.out.trans k3)
    clear k3
    go_wp2_with fail
    refine (padf54 w.heap.size mk w3 c3 hl).mono ?_
    rintro e w4 ⟨rfl, k4⟩
    rw [← HA.out.2.1]
    have K4 := Lib.hid (K3.out.trans k4)
    clear k4
    go_wp2_with fail
    refine (all_any [B, s] _ 2 _ ((row_fresh w4 9 [Str B, Str s] (by simp; unfold maxLen; omega)).rd) (by simp) (by simp; omega)).mono ?_
    rintro e w5 ⟨rfl, k5⟩
    rw [show [B, s].flatten = B ++ s by simp]
    have K5 := Lib.hid ((K4.out.alloc _).trans k5)
    clear k5
    go_wp2_with fail
    refine (all_any [A, sha (B ++ s)] _ 2 _ ((row_fresh w5 9 [Str A, Str (sha (B ++ s))] (by simp; unfold maxLen; omega)).rd) (by simp) (by simp [sha_len]; omega)).mono ?_
    rintro e w6 ⟨rfl, k6⟩
    have K6 := Lib.hid ((K5.out.alloc _).trans k6)
    clear k6
    go_wp2_with fail
    refine bodyPost_ret (results_tmp rfl _ _ _) rfl ⟨?_, K6.out⟩
    rw [macOf, ← HA.out.2.2, ← HA.out.1, ← HA.out.2.1]
    simp
  · have hlong' : ¬ (64 : Int) < key.length := by omega
    have e0 : key = mk := by rw [HA.out.2.2, macKey, if_neg hlong]
    clear hmk
    obtain ⟨W, hW⟩ : ∃ W, W = w.alloc (.cells #[Str key] 9) := ⟨_, rfl⟩
    have hcW : W.cell? ⟨w.heap.size, 0, none⟩ = some (Str mk) := by rw [hW, e0]; exact (Blk.new _ _ _).cell 0
    have KW : Hid (Step [] [] w W) := by rw [hW]; exact (Step.refl [] w).alloc _
    have HW := Lib.hid hW
    clear hW e0
    go_enter Tryd.func17, Tryd.ntmps17
    go_upto_region 3 with fail
    rw [← HW.out]
    go_wp2_with fail
    refine (padf92 w.heap.size mk W hcW hl).mono ?_
    rintro e w3 ⟨rfl, k3⟩
    rw [← HA.out.1]
    have c3 := k3.cell hcW (by simp)
    have K3 := Lib.hid (KW.out.trans k3)
    clear k3
    go_wp2_with fail
    refine (padf54 w.heap.size mk w3 c3 hl).mono ?_
    rintro e w4 ⟨rfl, k4⟩
    rw [← HA.out.2.1]
    have K4 := Lib.hid (K3.out.trans k4)
    clear k4
    go_wp2_with fail
    refine (all_any [B, s] _ 2 _ ((row_fresh w4 9 [Str B, Str s] (by simp; unfold maxLen; omega)).rd) (by simp) (by simp; omega)).mono ?_
    rintro e w5 ⟨rfl, k5⟩
    rw [show [B, s].flatten = B ++ s by simp]
    have K5 := Lib.hid ((K4.out.alloc _).trans k5)
    clear k5
    go_wp2_with fail
    refine (all_any [A, sha (B ++ s)] _ 2 _ ((row_fresh w5 9 [Str A, Str (sha (B ++ s))] (by simp; unfold maxLen; omega)).rd) (by simp) (by simp [sha_len]; omega)).mono ?_
    rintro e w6 ⟨rfl, k6⟩
    have K6 := Lib.hid ((K5.out.alloc _).trans k6)
    clear k6
    go_wp2_with fail
    refine bodyPost_ret (results_tmp rfl _ _ _) rfl ⟨?_, K6.out⟩
    rw [macOf, ← HA.out.2.2, ← HA.out.1, ← HA.out.2.1]
    simp
end Go.Proofs.YtoabhjngcajmiaaDoor
