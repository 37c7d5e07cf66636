/-
  pack.number: the bytes of a number. No condition.
-/
import Derived.Test.YtjfaplmojpldhaaRows
import Derived.Test.YtjfaplmojpldhaaLib
import Derived.Test.YtjfaplmojpldhaaPackPlain
namespace Go.Proofs.Ytjfaplmojpldhaa
open Go.RowKit
set_option linter.unusedSimpArgs false
set_option linter.unusedVariables false
set_option maxRecDepth 100000

theorem Try.info_u8 : (Try.prog.info? 5).map (fun i => (i.zero, i.size, i.bytes)) = some (some (.int .u8 0), 1, 1) := by kernel_rfl

/-- A row of cells with one byte more at the head of what is written. -/
theorem row_set (front : List Value) (low : List UInt8) (k : Nat) (h1 : 1 ≤ k) (hk : front.length = k) (b : UInt8) :
    (front ++ low.map bv).toArray.setIfInBounds (k - 1) (bv b) = (front.take (k - 1) ++ (b :: low).map bv).toArray := by
  apply Array.ext'
  simp
  rw [List.set_append_left _ _ (by omega), List.set_eq_take_append_cons_drop, if_pos (by omega), List.drop_eq_nil_of_le (by omega)]
  simp

set_option maxHeartbeats 400000 in
set_option maxRecDepth 100000 in
theorem number_pos (n : Nat) (h0 : 0 < n) (hn : n < 9223372036854775808) (w : World) :
    Calls Try.prog 49 #[.int .i64 n] w fun e w' => e = .returned (Str (numB n)) ∧ Step [] [] w w' := by
  have hN : Hid (n < 256 ^ 8) := by show n < 256 ^ 8; omega
  obtain ⟨i0, hi, hz0, hz1, hz2⟩ := info_parts Try.info_u8
  clear hz0 hz2
  go_enter Try.func49, Try.ntmps49
  go_wp2
  go_loopw [0, 4] (fun m k wr => ∃ (m' k' : Nat) (low : List UInt8) (front : List Value), m = .int .i64 m' ∧ k = .int .i64 k' ∧ 1 ≤ k' ∧ m' ≤ n ∧ Hid (k' + low.length = 9 ∧ be n = be m' ++ low ∧ m' < 256 ^ (k' - 1) ∧
      front.length = k' ∧ Blk wr w.heap.size 160 (front ++ low.map bv).toArray ∧ Step [] [] w wr))
    (fun m _ _ => (intOf m).toNat)
  case atStart =>
    refine ⟨n, 9, [], List.replicate 9 (.int .u8 0), rfl, rfl, by omega, by omega, ?_⟩
    exact ⟨rfl, by simp, hN.out, rfl, Blk.new _ _ _, (Step.refl _ _).alloc _⟩
  case round =>
    obtain ⟨m, k, low, front, rfl, rfl, hk1, hmn, H⟩ := hrel
    have hk4 : k ≤ 9 := by have := H.out.1; omega
    have hl : k - 1 < front.length := by have := H.out.2.2.2.1; omega
    have c1 : wr.cell? ⟨w.heap.size, k - 1, none⟩ = some front[k - 1] := by
      rw [H.out.2.2.2.2.1.cell]; simp [List.getElem?_append_left hl, List.getElem?_eq_getElem hl]
    have f1 : wr.frozen? ⟨w.heap.size, k - 1, none⟩ = false := H.out.2.2.2.2.1.frozen _
    by_cases hm : 0 < m
    · have hk2 : Hid _ := pow_step m k H.out.2.2.1 hm
      have hk3 : 2 ≤ k := hk2.1
      go_wp2
      go_roundw
      case rel =>
        refine ⟨m / 256, k - 1, UInt8.ofNat m :: low, front.take (k - 1), by go_num, by go_num, by omega, by omega, ?_⟩
        obtain ⟨r1, r2, r3, r4, r5, r6⟩ := H.out
        refine ⟨by simp; omega, by rw [r2, be_pos m hm]; simp, hk2.out.2, by simp; omega, ?_, r6.setCell (.inr (by simp)) _⟩
        have := r5.set (k - 1) (bv (UInt8.ofNat m))
        rw [row_set front low k hk1 r4] at this
        simpa [bv, u8_of_mod] using this
      case measure => simp [intOf]; omega
    · obtain rfl : m = 0 := by omega
      have hsl : ∀ wx, (Instr.sliceAt 160 (.pointer (some ⟨w.heap.size, 0, none⟩)) (some (.int .i64 ((k : Int) - 1))) (some (.int .i64 9)) (some (.int .i64 9))).run Try.prog wx = .ok (.slice (some ⟨w.heap.size, k - 1, none⟩) (10 - k) (10 - k)) wx := by
        intro wx
        rw [run_sliceAt3 wx 160 5 i0 9 Try.underlying160 hi hz1 _ _ _ _ _ (by omega) (by omega) (by omega) (by omega) (by omega)]
        rw [show 0 + ((k : Int) - 1).toNat = k - 1 by omega, show (9 : Int).toNat - ((k : Int) - 1).toNat = 10 - k by omega]
      have hcv : (convert 77 9 (.slice (some ⟨w.heap.size, k - 1, none⟩) (10 - k) (10 - k))).run Try.prog (wr.setCell ⟨w.heap.size, k - 1, none⟩ (.int .u8 (8 - ((k : Int) - 1)))) =
          .ok (Str (numB n)) (wr.setCell ⟨w.heap.size, k - 1, none⟩ (.int .u8 (8 - ((k : Int) - 1)))) := by
        obtain ⟨r1, r2, r3, r4, r5, r6⟩ := H.out
        have hx : (8 - ((k : Int) - 1)) = ((UInt8.ofNat low.length).toNat : Int) := by rw [u8_of_mod]; omega
        rw [hx]
        have hb := r5.set (k - 1) (bv (UInt8.ofNat low.length))
        rw [row_set front low k hk1 r4] at hb
        have hlow : be n = low := by rw [r2, be_zero]; rfl
        refine run_str_of_blk hb _ _ 5 Try.underlying77 Try.underlying5 Try.underlying9 _ _ _ _ (by simp [numB, hlow]; omega) ?_
        rw [List.toList_toArray, List.drop_left' (by simp; omega), List.take_of_length_le (by simp; omega)]
        simp [numB, hlow]
      go_wp2
      go_ret
      exact ⟨rfl, H.out.2.2.2.2.2.setCell (.inr (by simp)) _⟩

set_option maxHeartbeats 400000 in
set_option maxRecDepth 100000 in
theorem number_zero (n : Int) (h0 : n ≤ 0) (w : World) :
    Calls Try.prog 49 #[.int .i64 n] w fun e w' => e = .returned (Str (numB 0)) ∧ Step [] [] w w' := by
  obtain ⟨i0, hi, hz0, hz1, hz2⟩ := info_parts Try.info_u8
  clear hz0 hz2
  have hlt : ¬ (0 < n) := by omega
  have hsl : ∀ wx, (Instr.sliceAt 160 (.pointer (some ⟨w.heap.size, 0, none⟩)) (some (.int .i64 8)) (some (.int .i64 9)) (some (.int .i64 9))).run Try.prog wx = .ok (.slice (some ⟨w.heap.size, 8, none⟩) 1 1) wx := by
    intro wx
    rw [run_sliceAt3 wx 160 5 i0 9 Try.underlying160 hi hz1 _ _ _ _ _ (by omega) (by omega) (by omega) (by omega) (by omega)]
    rfl
  have hcv : ∀ wx : World, Blk wx w.heap.size 160 #[.int .u8 0, .int .u8 0, .int .u8 0, .int .u8 0, .int .u8 0, .int .u8 0, .int .u8 0, .int .u8 0, .int .u8 0] → (convert 77 9 (.slice (some ⟨w.heap.size, 8, none⟩) 1 1)).run Try.prog wx = .ok (Str (numB 0)) wx := by
    intro wx hb
    refine run_str_of_blk hb _ _ 5 Try.underlying77 Try.underlying5 Try.underlying9 _ _ _ _ (by simp [numB, be_zero]) (by simp [numB, be_zero, bv])
  go_enter Try.func49, Try.ntmps49
  go_wp2
  refine wp_loop_rounds 1 ?_
  rw [rounds_succ]
  have hcv' := hcv _ (Blk.new w 160 _)
  go_wp2
  go_ret
  exact ⟨rfl, (Step.refl _ _).alloc _⟩

theorem number_any (n : Int) (hn : n < 9223372036854775808) (w : World) :
    Calls Try.prog 49 #[.int .i64 n] w fun e w' => e = .returned (Str (numB n.toNat)) ∧ Step [] [] w w' := by
  by_cases h : n ≤ 0
  · have : n.toNat = 0 := by omega
    rw [this]
    exact number_zero n h w
  · have := number_pos n.toNat (by omega) (by omega) w
    rwa [show ((n.toNat : Nat) : Int) = n by omega] at this
end Go.Proofs.Ytjfaplmojpldhaa
