/-
  The reference's number, constants, turn. Condition: a size of 8 or 4.
-/
import Derived.Test.YtdiacfbflbenoaaHashSum
import Derived.Test.YtdiacfbflbenoaaMem4
import Derived.Deep.OwnRows
namespace Go.Proofs.Ytdiacfbflbenoaa
open Go.RowKit
set_option linter.unusedSimpArgs false
set_option linter.unusedVariables false

theorem Blk.row' {w : World} {g : Nat} {t : TypeId} {xs : List Value} (h : Blk w g t xs.toArray) (hl : xs.length ≤ maxLen) : Row w 1 (some ⟨g, 0, none⟩) xs.length xs.length xs :=
  ⟨by simp, Nat.le_refl _, hl, (fun e => by cases e), fun ad e => by
    injection e with e
    subst e
    exact ⟨rfl, _, h.cells, by simp, by simp⟩⟩
/-- So many bytes of a number, the highest first. -/
def numBytes (n : Nat) : Nat → List UInt8
  | 0 => []
  | k + 1 => numBytes (n / 256) k ++ [UInt8.ofNat n]
theorem numBytes_len (n k : Nat) : (numBytes n k).length = k := by
  induction k generalizing n with
  | zero => rfl
  | succ k ih => simp [numBytes, ih]
theorem numBytes_8 (n : Nat) : numBytes n 8 = len8 n := by
  simp [numBytes, len8, Nat.div_div_eq_div_mul]
theorem numBytes_4 (x : Wd) : numBytes x.toNat 4 = wdbytes x := by
  have e : ∀ n, lob (wshr x n) = UInt8.ofNat (x.toNat / 2 ^ n) := fun n => by
    rw [lob, wshr, BitVec.toNat_ushiftRight, Nat.shiftRight_eq_div_pow]
  have e0 : lob x = UInt8.ofNat x.toNat := rfl
  simp [numBytes, wdbytes, e, e0, Nat.div_div_eq_div_mul]

set_option maxRecDepth 100000 in
theorem constants_any (w : World) : Calls Try.prog 36 #[] w fun e w' => e = .returned (.slice (some ⟨w.heap.size, 0, none⟩) 64 64) ∧ Rd w' 1 (some ⟨w.heap.size, 0, none⟩) 64 (kc.map wv) ∧ Step [] [] w w' := by
  go_enter Try.func36, Try.ntmps36
  go_wp2_with fail
  refine bodyPost_ret (results_tmp rfl _ _ _) rfl ⟨rfl, ?_, (Step.refl [] w).alloc _⟩
  exact (row_fresh w 70 (kc.map wv) (by rw [List.length_map, kc_len]; unfold maxLen; omega)).rd
theorem turn_at (n : Nat) (k : Int) (hk : k = (n : Int)) (h1 : 1 ≤ n) (h2 : n ≤ 31) (x : Wd) (w : World) : Calls Try.prog 37 #[wv x, .int .u64 k] w fun e w' => e = .returned (wv (rotr x n)) ∧ w = w' := by
  subst hk; exact turn_any x n h1 h2 w
theorem turn2 (x : Wd) (w : World) : Calls Try.prog 37 #[.int .u32 (x.toNat : Int), .int .u64 2] w fun e w' => e = .returned (.int .u32 ((rotr x 2).toNat : Int)) ∧ w = w' := turn_at 2 _ rfl (by decide) (by decide) x w
theorem turn6 (x : Wd) (w : World) : Calls Try.prog 37 #[.int .u32 (x.toNat : Int), .int .u64 6] w fun e w' => e = .returned (.int .u32 ((rotr x 6).toNat : Int)) ∧ w = w' := turn_at 6 _ rfl (by decide) (by decide) x w
theorem turn7 (x : Wd) (w : World) : Calls Try.prog 37 #[.int .u32 (x.toNat : Int), .int .u64 7] w fun e w' => e = .returned (.int .u32 ((rotr x 7).toNat : Int)) ∧ w = w' := turn_at 7 _ rfl (by decide) (by decide) x w
theorem turn11 (x : Wd) (w : World) : Calls Try.prog 37 #[.int .u32 (x.toNat : Int), .int .u64 11] w fun e w' => e = .returned (.int .u32 ((rotr x 11).toNat : Int)) ∧ w = w' := turn_at 11 _ rfl (by decide) (by decide) x w
theorem turn13 (x : Wd) (w : World) : Calls Try.prog 37 #[.int .u32 (x.toNat : Int), .int .u64 13] w fun e w' => e = .returned (.int .u32 ((rotr x 13).toNat : Int)) ∧ w = w' := turn_at 13 _ rfl (by decide) (by decide) x w
theorem turn17 (x : Wd) (w : World) : Calls Try.prog 37 #[.int .u32 (x.toNat : Int), .int .u64 17] w fun e w' => e = .returned (.int .u32 ((rotr x 17).toNat : Int)) ∧ w = w' := turn_at 17 _ rfl (by decide) (by decide) x w
theorem turn18 (x : Wd) (w : World) : Calls Try.prog 37 #[.int .u32 (x.toNat : Int), .int .u64 18] w fun e w' => e = .returned (.int .u32 ((rotr x 18).toNat : Int)) ∧ w = w' := turn_at 18 _ rfl (by decide) (by decide) x w
theorem turn19 (x : Wd) (w : World) : Calls Try.prog 37 #[.int .u32 (x.toNat : Int), .int .u64 19] w fun e w' => e = .returned (.int .u32 ((rotr x 19).toNat : Int)) ∧ w = w' := turn_at 19 _ rfl (by decide) (by decide) x w
theorem turn22 (x : Wd) (w : World) : Calls Try.prog 37 #[.int .u32 (x.toNat : Int), .int .u64 22] w fun e w' => e = .returned (.int .u32 ((rotr x 22).toNat : Int)) ∧ w = w' := turn_at 22 _ rfl (by decide) (by decide) x w
theorem turn25 (x : Wd) (w : World) : Calls Try.prog 37 #[.int .u32 (x.toNat : Int), .int .u64 25] w fun e w' => e = .returned (.int .u32 ((rotr x 25).toNat : Int)) ∧ w = w' := turn_at 25 _ rfl (by decide) (by decide) x w

set_option maxRecDepth 100000 in
set_option maxHeartbeats 1000000 in
theorem hnumber_any (n size : Nat) (hn : n < 18446744073709551616) (hs : 1 ≤ size) (hs8 : size ≤ 8) (w : World) :
    Calls Try.prog 35 #[.int .u64 (n : Int), .int .i64 (size : Int)] w fun e w' => ∃ g, e = .returned (.slice (some ⟨g, 0, none⟩) size size) ∧ Rd w' 1 (some ⟨g, 0, none⟩) size ((numBytes n size).map bv) ∧ Step [] [] w w' := by
  obtain ⟨Z, hZ⟩ : ∃ Z, Z = madeCells #[Value.int .u8 0] size := ⟨_, rfl⟩
  have hmk : ∀ W, (Instr.makeSlice 26 (.int .i64 (size : Int)) (.int .i64 (size : Int))).run Try.prog W = .ok (.slice (some ⟨W.heap.size, 0, none⟩) size size) (W.alloc (.cells Z 5)) := fun W => by
    rw [hZ]; exact run_make_row' (P := Try.prog) 26 5 (.int .u8 0) 1 Try.underlying26 Try.info_bytes rfl .i64 .i64 size (by omega) (by omega) W
  have hb1 : Blk (w.alloc (.cells Z 5)) w.heap.size 5 ((List.replicate size (0 : UInt8)).map bv).toArray := by
    have e : Z = ((List.replicate size (0 : UInt8)).map bv).toArray := by
      apply Array.ext'
      rw [hZ, toList_madeCells_one]; simp [bv]
    rw [← e]; exact Blk.new _ _ _
  have H1 := Lib.hid hb1
  clear hZ hb1
  go_enter Try.func35, Try.ntmps35
  go_wp2_with fail
  go_loopw [0, 6] (fun v i wr => ∃ (k m : Nat), k ≤ size ∧ m < 18446744073709551616 ∧ i = .int .i64 ((k : Int) - 1) ∧ v = .int .u64 (m : Int) ∧ Hid (numBytes n size = numBytes m k ++ (numBytes n size).drop k ∧ Blk wr w.heap.size 5 ((List.replicate k (0 : UInt8) ++ (numBytes n size).drop k).map bv).toArray ∧ Step [] [] w wr))
    (fun _ i _ => (intOf i + 1).toNat)
  case atStart =>
    refine ⟨size, n, Nat.le_refl _, hn, rfl, rfl, ?_, ?_, (Step.refl [] w).alloc _⟩
    · rw [List.drop_of_length_le (by rw [numBytes_len]; exact Nat.le_refl _), List.append_nil]
    · rw [List.drop_of_length_le (by rw [numBytes_len]; exact Nat.le_refl _), List.append_nil]; exact H1.out
  case round =>
    obtain ⟨k, m, hk, hm, rfl, rfl, HW⟩ := hrel
    by_cases h0 : k = 0
    · subst h0
      have hk0 : ¬ (0 : Int) ≤ ((0 : Nat) : Int) - 1 := by omega
      go_wp2_with fail
      refine bodyPost_ret (results_tmp rfl _ _ _) rfl ⟨w.heap.size, rfl, ?_, HW.out.2.2⟩
      have h := HW.out.2.1
      simp only [List.replicate_zero, List.nil_append, List.drop_zero] at h
      have h2 := (Blk.row' h (by rw [List.length_map, numBytes_len]; unfold maxLen; omega)).rd
      rwa [List.length_map, numBytes_len] at h2
    · obtain ⟨j, rfl⟩ : ∃ j, k = j + 1 := ⟨k - 1, by omega⟩
      have e1 : ((j + 1 : Nat) : Int) - 1 = (j : Int) := by omega
      have hj : (j : Int) < size := by omega
      have hj0 : (0 : Int) ≤ (j : Int) := by omega
      rw [e1]
      have d0 : ∃ u, wr.cell? ⟨w.heap.size, j, none⟩ = some u := by
        rw [HW.out.2.1.cell]
        exact ⟨_, Array.getElem?_eq_getElem (by simp [numBytes_len]; omega)⟩
      obtain ⟨u, d0⟩ := d0
      have f0 := HW.out.2.1.frozen j
      have z1 : IntKind.u8.wrap ((m : Int) % 256) = ((UInt8.ofNat m).toNat : Int) := by
        rw [IntWalk.u8_in _ (by omega), UInt8.toNat_ofNat']; omega
      go_wp2_with fail
      go_roundw
      case rel =>
        have hD := HW.out.1
        simp only [numBytes] at hD
        rw [List.append_assoc] at hD
        have hd : (numBytes n size).drop j = UInt8.ofNat m :: (numBytes n size).drop (j + 1) := by
          have := congrArg (List.drop j) hD
          rw [List.drop_left' (numBytes_len _ _)] at this
          exact this
        have hv : Value.int .u8 ((m : Int) % 256) = bv (UInt8.ofNat m) := by
          show _ = Value.int .u8 (((UInt8.ofNat m).toNat : Nat) : Int)
          rw [UInt8.toNat_ofNat']; congr 1
        refine ⟨j, m / 256, by omega, by omega, rfl, by congr 1, ?_, ?_, HW.out.2.2.setCell (.inr (Nat.le_refl _)) _⟩
        · rw [hd]; exact hD
        · have := HW.out.2.1.set j (bv (UInt8.ofNat m))
          have e : (((List.replicate (j + 1) (0 : UInt8) ++ (numBytes n size).drop (j + 1)).map bv).toArray.setIfInBounds j (bv (UInt8.ofNat m))) = ((List.replicate j (0 : UInt8) ++ (numBytes n size).drop j).map bv).toArray := by
            rw [List.setIfInBounds_toArray, hd, List.replicate_succ', List.append_assoc]
            congr 1
            have := list_set_mid ((List.replicate j (0 : UInt8)).map bv) (((numBytes n size).drop (j + 1)).map bv) (bv 0) (bv (UInt8.ofNat m))
            rw [List.length_map, List.length_replicate] at this
            simp
          rw [e] at this
          rw [hv]
          exact this
      case measure => simp [intOf]
end Go.Proofs.Ytdiacfbflbenoaa
