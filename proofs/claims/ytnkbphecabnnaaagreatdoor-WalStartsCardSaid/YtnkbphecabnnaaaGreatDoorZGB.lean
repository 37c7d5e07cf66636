/-
  The plain side of layer 3: the bytes of a number (big endian, no leading nought, the length ahead). No condition.
-/
import Derived.Test.YtnkbphecabnnaaaGreatDoorZGA
import Derived.WalkKit
import Derived.Test.YtnkbphecabnnaaaGreatDoorRows
import Derived.Deep.RegionHeld3
namespace Go.Proofs.YtnkbphecabnnaaaGreatDoor

/-- A number's digits to the base 256, the highest first. -/
def be (n : Nat) : List UInt8 := if n = 0 then [] else be (n / 256) ++ [UInt8.ofNat n]
termination_by n
decreasing_by omega

theorem be_zero : be 0 = [] := by rw [be]; simp
theorem be_pos (n : Nat) (h : 0 < n) : be n = be (n / 256) ++ [UInt8.ofNat n] := by rw [be, if_neg (by omega)]

/-- A number's bytes. -/
def numB (n : Nat) : List UInt8 := UInt8.ofNat (be n).length :: be n

theorem be_len (k : Nat) : ∀ n, n < 256 ^ k → (be n).length ≤ k := by
  induction k with
  | zero => intro n h; simp at h; subst h; rw [be_zero]; simp
  | succ k ih =>
    intro n h
    by_cases h0 : n = 0
    · subst h0; rw [be_zero]; simp
    · rw [be_pos n (by omega), List.length_append]
      have := ih (n / 256) (by rw [Nat.pow_succ] at h; omega)
      simp; omega

theorem numB_len (n : Nat) (h : n < 18446744073709551616) : (numB n).length ≤ 9 := by
  have := be_len 8 n (by omega)
  simp [numB]; omega

theorem pow_step (m k : Nat) (h : m < 256 ^ (k - 1)) (hp : 0 < m) : 2 ≤ k ∧ m / 256 < 256 ^ (k - 1 - 1) := by
  have h1 : k - 1 ≠ 0 := by intro e; rw [e] at h; simp at h; omega
  refine ⟨by omega, ?_⟩
  obtain ⟨j, hj⟩ : ∃ j, k - 1 = j + 1 := ⟨k - 2, by omega⟩
  rw [hj] at h ⊢
  rw [Nat.pow_succ] at h
  simp
  omega

theorem u8_of_mod (m : Nat) : ((UInt8.ofNat m).toNat : Int) = (m : Int) % 256 := by simp [UInt8.toNat_ofNat']
end Go.Proofs.YtnkbphecabnnaaaGreatDoor
namespace Go.Proofs.YtnkbphecabnnaaaGreatDoor
open Go.RowKit
set_option linter.unusedSimpArgs false
set_option linter.unusedVariables false
set_option maxRecDepth 100000

theorem Tryz.info_u8 : (Tryz.prog.info? 5).map (fun i => (i.zero, i.size, i.bytes)) = some (some (.int .u8 0), 1, 1) := by kernel_rfl

/-- A row of cells with one byte more at the head of what is written. -/
theorem row_set (front : List Value) (low : List UInt8) (k : Nat) (h1 : 1 ≤ k) (hk : front.length = k) (b : UInt8) :
    (front ++ low.map bv).toArray.setIfInBounds (k - 1) (bv b) = (front.take (k - 1) ++ (b :: low).map bv).toArray := by
  apply Array.ext'
  simp
  rw [List.set_append_left _ _ (by omega), List.set_eq_take_append_cons_drop, if_pos (by omega), List.drop_eq_nil_of_le (by omega)]
  simp

set_option maxHeartbeats 400000 in
set_option maxRecDepth 100000 in
theorem number_pos (n : Nat) (h0 : 0 < n) (hn : n < 9223372036854775808) (w : World) :
    Calls Tryz.prog 70 #[.int .i64 n] w fun e w' => e = .returned (Str (numB n)) ∧ Step [] [] w w' := by
  have hN : Hid (n < 256 ^ 8) := by show n < 256 ^ 8; omega
  obtain ⟨i0, hi, hz0, hz1, hz2⟩ := info_parts Tryz.info_u8
  clear hz0 hz2
  go_enter Tryz.func70, Tryz.ntmps70
  go_wp2
  go_loopw [0, 4] (fun m k wr => ∃ (m' k' : Nat) (low : List UInt8) (front : List Value), m = .int .i64 m' ∧ k = .int .i64 k' ∧ 1 ≤ k' ∧ m' ≤ n ∧ Hid (k' + low.length = 9 ∧ be n = be m' ++ low ∧ m' < 256 ^ (k' - 1) ∧
      front.length = k' ∧ Blk wr w.heap.size 135 (front ++ low.map bv).toArray ∧ Step [] [] w wr))
    (fun m _ _ => (intOf m).toNat)
  case atStart =>
    refine ⟨n, 9, [], List.replicate 9 (.int .u8 0), rfl, rfl, by omega, by omega, ?_⟩
    exact ⟨rfl, by simp, hN.out, rfl, Blk.new _ _ _, (Step.refl _ _).alloc _⟩
  case round =>
    obtain ⟨m, k, low, front, rfl, rfl, hk1, hmn, H⟩ := hrel
    have hk4 : k ≤ 9 := by have := H.out.1; omega
    have hl : k - 1 < front.length := by have := H.out.2.2.2.1; omega
    have c1 : wr.cell? ⟨w.heap.size, k - 1, none⟩ = some front[k - 1] := by
      rw [H.out.2.2.2.2.1.cell]; simp [List.getElem?_append_left hl, List.getElem?_eq_getElem hl]
    have f1 : wr.frozen? ⟨w.heap.size, k - 1, none⟩ = false := H.out.2.2.2.2.1.frozen _
    by_cases hm : 0 < m
    · have hk2 : Hid _ := pow_step m k H.out.2.2.1 hm
      have hk3 : 2 ≤ k := hk2.1
      go_wp2
      go_roundw
      case rel =>
        refine ⟨m / 256, k - 1, UInt8.ofNat m :: low, front.take (k - 1), by go_num, by go_num, by omega, by omega, ?_⟩
        obtain ⟨r1, r2, r3, r4, r5, r6⟩ := H.out
        refine ⟨by simp; omega, by rw [r2, be_pos m hm]; simp, hk2.out.2, by simp; omega, ?_, r6.setCell (.inr (by simp)) _⟩
        have := r5.set (k - 1) (bv (UInt8.ofNat m))
        rw [row_set front low k hk1 r4] at this
        simpa [bv, u8_of_mod] using this
      case measure => simp [intOf]; omega
    · obtain rfl : m = 0 := by omega
      have hsl : ∀ wx, (Instr.sliceAt 135 (.pointer (some ⟨w.heap.size, 0, none⟩)) (some (.int .i64 ((k : Int) - 1))) (some (.int .i64 9)) (some (.int .i64 9))).run Tryz.prog wx = .ok (.slice (some ⟨w.heap.size, k - 1, none⟩) (10 - k) (10 - k)) wx := by
        intro wx
        rw [run_sliceAt3 wx 135 5 i0 9 Tryz.underlying135 hi hz1 _ _ _ _ _ (by omega) (by omega) (by omega) (by omega) (by omega)]
        rw [show 0 + ((k : Int) - 1).toNat = k - 1 by omega, show (9 : Int).toNat - ((k : Int) - 1).toNat = 10 - k by omega]
      have hcv : (convert 22 9 (.slice (some ⟨w.heap.size, k - 1, none⟩) (10 - k) (10 - k))).run Tryz.prog (wr.setCell ⟨w.heap.size, k - 1, none⟩ (.int .u8 (8 - ((k : Int) - 1)))) =
          .ok (Str (numB n)) (wr.setCell ⟨w.heap.size, k - 1, none⟩ (.int .u8 (8 - ((k : Int) - 1)))) := by
        obtain ⟨r1, r2, r3, r4, r5, r6⟩ := H.out
        have hx : (8 - ((k : Int) - 1)) = ((UInt8.ofNat low.length).toNat : Int) := by rw [u8_of_mod]; omega
        rw [hx]
        have hb := r5.set (k - 1) (bv (UInt8.ofNat low.length))
        rw [row_set front low k hk1 r4] at hb
        have hlow : be n = low := by rw [r2, be_zero]; rfl
        refine run_str_of_blk hb _ _ 5 Tryz.underlying22 Tryz.underlying5 Tryz.underlying9 _ _ _ _ (by simp [numB, hlow]; omega) ?_
        rw [List.toList_toArray, List.drop_left' (by simp; omega), List.take_of_length_le (by simp; omega)]
        simp [numB, hlow]
      go_wp2
      go_ret
      exact ⟨rfl, H.out.2.2.2.2.2.setCell (.inr (by simp)) _⟩

set_option maxHeartbeats 400000 in
set_option maxRecDepth 100000 in
theorem number_zero (n : Int) (h0 : n ≤ 0) (w : World) :
    Calls Tryz.prog 70 #[.int .i64 n] w fun e w' => e = .returned (Str (numB 0)) ∧ Step [] [] w w' := by
  obtain ⟨i0, hi, hz0, hz1, hz2⟩ := info_parts Tryz.info_u8
  clear hz0 hz2
  have hlt : ¬ (0 < n) := by omega
  have hsl : ∀ wx, (Instr.sliceAt 135 (.pointer (some ⟨w.heap.size, 0, none⟩)) (some (.int .i64 8)) (some (.int .i64 9)) (some (.int .i64 9))).run Tryz.prog wx = .ok (.slice (some ⟨w.heap.size, 8, none⟩) 1 1) wx := by
    intro wx
    rw [run_sliceAt3 wx 135 5 i0 9 Tryz.underlying135 hi hz1 _ _ _ _ _ (by omega) (by omega) (by omega) (by omega) (by omega)]
    rfl
  have hcv : ∀ wx : World, Blk wx w.heap.size 135 #[.int .u8 0, .int .u8 0, .int .u8 0, .int .u8 0, .int .u8 0, .int .u8 0, .int .u8 0, .int .u8 0, .int .u8 0] → (convert 22 9 (.slice (some ⟨w.heap.size, 8, none⟩) 1 1)).run Tryz.prog wx = .ok (Str (numB 0)) wx := by
    intro wx hb
    refine run_str_of_blk hb _ _ 5 Tryz.underlying22 Tryz.underlying5 Tryz.underlying9 _ _ _ _ (by simp [numB, be_zero]) (by simp [numB, be_zero, bv])
  go_enter Tryz.func70, Tryz.ntmps70
  go_wp2
  refine wp_loop_rounds 1 ?_
  rw [rounds_succ]
  have hcv' := hcv _ (Blk.new w 135 _)
  go_wp2
  go_ret
  exact ⟨rfl, (Step.refl _ _).alloc _⟩

theorem number_any (n : Int) (hn : n < 9223372036854775808) (w : World) :
    Calls Tryz.prog 70 #[.int .i64 n] w fun e w' => e = .returned (Str (numB n.toNat)) ∧ Step [] [] w w' := by
  by_cases h : n ≤ 0
  · have : n.toNat = 0 := by omega
    rw [this]
    exact number_zero n h w
  · have := number_pos n.toNat (by omega) (by omega) w
    rwa [show ((n.toNat : Nat) : Int) = n by omega] at this
end Go.Proofs.YtnkbphecabnnaaaGreatDoor
namespace Go.Proofs.YtnkbphecabnnaaaGreatDoor
open Go.RowKit
set_option linter.unusedSimpArgs false
set_option linter.unusedVariables false
set_option maxRecDepth 100000

/-- What a reader holds: what is ahead, whether there was a fault. -/
structure RS where
 s : List UInt8
 bad : Bool

def Rdr (w : World) (p : Nat) (st : RS) : Prop := Blk w p 131 #[Str st.s, .bool st.bad]
def rfail : RS := ⟨[], true⟩

theorem Rdr.step {w w' : World} {p : Nat} {T T' : List Nat} {st : RS} (h : Rdr w p st) (k : Step T T' w w') (hn : p ∉ T) : Rdr w' p st := Blk.step h k hn
theorem Rdr.c0 {w : World} {p : Nat} {st : RS} (h : Rdr w p st) : w.cell? ⟨p, 0, none⟩ = some (Str st.s) := by have := Blk.cell h 0; simpa using this
theorem Rdr.c1 {w : World} {p : Nat} {st : RS} (h : Rdr w p st) : w.cell? ⟨p, 1, none⟩ = some (.bool st.bad) := by have := Blk.cell h 1; simpa using this

def RdPost (p : Nat) (st : RS) (v : Value) (w : World) (e : Ending) (w' : World) : Prop := e = .returned v ∧ Rdr w' p st ∧ Step [p] [p] w w'

set_option maxHeartbeats 400000 in
theorem read_any (s : List UInt8) (w : World) : Calls Tryz.prog 65 #[Str s] w fun e w' => e = .returned (.pointer (some ⟨w.heap.size, 0, none⟩)) ∧ w' = w.alloc (.cells #[Str s, .bool false] 131) := by
 go_enter Tryz.func65, Tryz.ntmps65
 go_wp2
 go_ret
 exact ⟨rfl, rfl⟩

set_option maxHeartbeats 400000 in
theorem fail_nil (w : World) : Calls Tryz.prog 101 #[.pointer none] w fun e w' => e = .returned (.bool false) ∧ w = w' := by
 go_enter Tryz.func101, Tryz.ntmps101
 go_wp2
 go_ret
 exact ⟨rfl, rfl⟩

set_option maxHeartbeats 400000 in
theorem fail_any (p : Nat) (st : RS) (w : World) (h : Rdr w p st) : Calls Tryz.prog 101 #[.pointer (some ⟨p, 0, none⟩)] w (RdPost p rfail (.bool false) w) := by
 have c0 := h.c0
 have c1 := h.c1
 have f0 := Blk.frozen h 0
 have f1 := Blk.frozen h 1
 have H := Lib.hid h
 clear h
 go_enter Tryz.func101, Tryz.ntmps101
 go_wp2
 go_ret
 refine ⟨rfl, ?_, ((Step.refl [p] w).setCell (.inl (by simp)) _).setCell (.inl (by simp)) _⟩
 exact (Blk.set H.out 0 (Str [])).set 1 (.bool true)

set_option maxHeartbeats 400000 in
theorem take_nil (n : Int) (w : World) : Calls Tryz.prog 85 #[.pointer none, .int .i64 n] w fun e w' => e = .returned (.tuple #[Str [], .bool false]) ∧ w = w' := by
 go_enter Tryz.func85, Tryz.ntmps85
 go_wp2_with fail
 refine (fail_nil _).mono ?_
 rintro e w1 ⟨rfl, rfl⟩
 go_wp2_with fail
 go_ret2
 exact ⟨rfl, rfl⟩

set_option maxHeartbeats 400000 in
theorem take_no (p : Nat) (st : RS) (n : Nat) (w : World) (h : Rdr w p st) (hn : st.bad = true ∨ st.s.length < n) : Calls Tryz.prog 85 #[.pointer (some ⟨p, 0, none⟩), .int .i64 n] w (RdPost p rfail (.tuple #[Str [], .bool false]) w) := by
 obtain ⟨s, bad⟩ := st
 simp only at hn
 have c0 := h.c0
 have c1 := h.c1
 simp only at c0 c1
 have H := Lib.hid h
 clear h
 cases bad with
 | true =>
  clear hn
  go_enter Tryz.func85, Tryz.ntmps85
  go_wp2_with fail
  refine (fail_any p _ _ H.out).mono ?_
  rintro e w1 ⟨rfl, h1, k1⟩
  go_wp2_with fail
  go_ret2
  exact ⟨rfl, h1, k1⟩
 | false =>
  have hl : (s.length : Int) < n := by
   rcases hn with h | h
   ·cases h
   ·omega
  clear hn
  go_enter Tryz.func85, Tryz.ntmps85
  go_wp2_with fail
  refine (fail_any p _ _ H.out).mono ?_
  rintro e w1 ⟨rfl, h1, k1⟩
  go_wp2_with fail
  go_ret2
  exact ⟨rfl, h1, k1⟩

set_option maxHeartbeats 400000 in
theorem take_yes (p : Nat) (s : List UInt8) (n : Nat) (w : World) (h : Rdr w p ⟨s, false⟩) (hn : n ≤ s.length) (hs : s.length ≤ 9223372036854775807) :
  Calls Tryz.prog 85 #[.pointer (some ⟨p, 0, none⟩), .int .i64 n] w (RdPost p ⟨s.drop n, false⟩ (.tuple #[Str (s.take n), .bool true]) w) := by
 have c0 := h.c0
 have c1 := h.c1
 simp only at c0 c1
 have f0 := Blk.frozen h 0
 have H := Lib.hid h
 clear h
 have hl : (n : Int) ≤ s.length := by omega
 go_enter Tryz.func85, Tryz.ntmps85
 go_wp2_with fail
 go_ret2
 exact ⟨rfl, Blk.set H.out 0 (Str (s.drop n)), (Step.refl [p] w).setCell (.inl (by simp)) _⟩

/-! ### Upto -/
def val (l : List UInt8) : Nat := l.foldl (fun n c => n * 256 + c.toNat) 0
theorem val_snoc (l : List UInt8) (c : UInt8) : val (l ++ [c]) = val l * 256 + c.toNat := by simp [val]
theorem val_lt (l : List UInt8) : val l < 256 ^ l.length := by
 suffices h : ∀ m : List UInt8, val m.reverse < 256 ^ m.length by
  have := h l.reverse
  simpa using this
 intro m
 induction m with
 | nil => simp [val]
 | cons c m ih =>
  rw [List.reverse_cons, val_snoc, List.length_cons, Nat.pow_succ]
  have := c.toNat_lt
  omega

/-- The number's end: it is one if it isn't too great. -/
def uptoFin (most : Int) (n : Nat) (rest : List UInt8) : Int × RS := if 4611686018427387903 < n ∨ most < n then (0, rfail) else (n, ⟨rest, false⟩)
def upto (st : RS) (most : Int) : Int × RS :=
 if st.bad then (0, rfail) else match st.s with
 | [] => (0, rfail)
 | h :: rest => if rest.length < h.toNat ∨ 8 < h.toNat ∨ (0 < h.toNat ∧ rest.head? = some 0) then (0, rfail) else uptoFin most (val (rest.take h.toNat)) (rest.drop h.toNat)

def UptoPost (p : Nat) (r : Int × RS) (w : World) (e : Ending) (w' : World) : Prop := RdPost p r.2 (.int .i64 r.1) w e w'

set_option maxHeartbeats 400000 in
theorem upto_none (p : Nat) (st : RS) (most : Int) (w : World) (h : Rdr w p st) (hn : st.bad = true ∨ st.s = []) : Calls Tryz.prog 84 #[.pointer (some ⟨p, 0, none⟩), .int .i64 most] w (UptoPost p (0, rfail) w) := by
 have hn' : Hid (st.bad = true ∨ st.s.length < 1) := by
  rcases hn with h | h
  ·exact .inl h
  ·exact .inr (by rw [h]; simp)
 clear hn
 go_enter Tryz.func84, Tryz.ntmps84
 go_wp2_with fail
 refine (take_no p st 1 _ h hn'.out).mono ?_
 rintro e w1 ⟨rfl, h1, k1⟩
 go_wp2_with fail
 go_ret
 exact ⟨rfl, h1, k1⟩

set_option maxHeartbeats 400000 in
theorem upto_short (p : Nat) (h : UInt8) (rest : List UInt8) (most : Int) (w : World) (hr : Rdr w p ⟨h :: rest, false⟩) (hl : rest.length < 9223372036854775807) (hn : rest.length < h.toNat) :
  Calls Tryz.prog 84 #[.pointer (some ⟨p, 0, none⟩), .int .i64 most] w (UptoPost p (0, rfail) w) := by
 go_enter Tryz.func84, Tryz.ntmps84
 go_wp2_with fail
 refine (take_yes p (h :: rest) 1 _ hr (by simp) (by simp; omega)).mono ?_
 rintro e w1 ⟨rfl, h1, k1⟩
 go_wp2_with fail
 refine (take_no p _ h.toNat w1 h1 (.inr hn)).mono ?_
 rintro e w2 ⟨rfl, h2, k2⟩
 go_wp2_with fail
 refine (fail_any p _ w2 h2).mono ?_
 rintro e w3 ⟨rfl, h3, k3⟩
 go_wp2_with fail
 go_ret
 exact ⟨rfl, h3, (k1.trans k2).trans k3⟩

set_option maxHeartbeats 400000 in
/-- More than eight bytes, or a nought ahead. -/
theorem upto_odd (p : Nat) (h : UInt8) (rest : List UInt8) (most : Int) (w : World) (hr : Rdr w p ⟨h :: rest, false⟩) (hl : rest.length < 9223372036854775807) (hn : h.toNat ≤ rest.length) (ho : 8 < h.toNat ∨ (h.toNat ≤ 8 ∧ 0 < h.toNat ∧ rest.head? = some 0)) :
  Calls Tryz.prog 84 #[.pointer (some ⟨p, 0, none⟩), .int .i64 most] w (UptoPost p (0, rfail) w) := by
 go_enter Tryz.func84, Tryz.ntmps84
 go_wp2_with fail
 refine (take_yes p (h :: rest) 1 _ hr (by simp) (by simp; omega)).mono ?_
 rintro e w1 ⟨rfl, h1, k1⟩
 go_wp2_with fail
 refine (take_yes p rest h.toNat w1 h1 hn (by omega)).mono ?_
 rintro e w2 ⟨rfl, h2, k2⟩
 rcases ho with ho | ⟨ho1, ho2, ho3⟩
 ·go_wp2_with fail
  refine (fail_any p _ w2 h2).mono ?_
  rintro e w3 ⟨rfl, h3, k3⟩
  go_wp2_with fail
  go_ret
  exact ⟨rfl, h3, (k1.trans k2).trans k3⟩
 ·obtain ⟨m, hm⟩ : ∃ m, h.toNat = m + 1 := ⟨h.toNat - 1, by omega⟩
  cases rest with
  | nil => simp at ho3
  | cons r rest =>
   simp at ho3
   subst ho3
   have hrt : Hid ((0 :: rest : List UInt8).take h.toNat = 0 :: rest.take m) := by show _ = _; rw [hm]; rfl
   clear hm
   rw [hrt.out]
   go_wp2_with fail
   refine (fail_any p _ w2 h2).mono ?_
   rintro e w3 ⟨rfl, h3, k3⟩
   go_wp2_with fail
   go_ret
   exact ⟨rfl, h3, (k1.trans k2).trans k3⟩

theorem bits_low (V : Nat) (c : UInt8) (h : V < 72057594037927936) : bits .or .u64 (IntKind.u64.wrap ((V : Int) * 256)) (c.toNat : Int) = ((V * 256 + c.toNat : Nat) : Int) := by
 have hc := c.toNat_lt
 have hw : IntKind.u64.wrap ((V : Int) * 256) = ((V * 256 : Nat) : Int) := by
  rw [IntWalk.u64_in _ (by omega)]
  simp
 rw [hw, u64_or_nat _ _ (by omega) (by omega), Nat.or_comm, nat_join8' _ _ (by omega) (by omega)]

theorem val_take (b : List UInt8) (k : Nat) (h : k < b.length) : val (b.take (k + 1)) = val (b.take k) * 256 + b[k].toNat := by
 rw [List.take_succ_eq_append_getElem h, val_snoc]

set_option maxHeartbeats 400000 in
/-- Nought. -/
theorem upto_zero (p : Nat) (hd : UInt8) (rest : List UInt8) (most : Int) (w : World) (hr : Rdr w p ⟨hd :: rest, false⟩) (hl : rest.length < 9223372036854775807) (h0 : hd.toNat = 0) :
  Calls Tryz.prog 84 #[.pointer (some ⟨p, 0, none⟩), .int .i64 most] w (UptoPost p (uptoFin most 0 rest) w) := by
 have hd0 : hd = 0 := UInt8.toNat_inj.1 (by simpa using h0)
 subst hd0
 clear h0
 by_cases hm : most < 0
 ·have hfin : Hid (uptoFin most 0 rest = (0, rfail)) := by show _ = _; simp [uptoFin, hm]
  go_enter Tryz.func84, Tryz.ntmps84
  go_wp2_with fail
  refine (take_yes p (0 :: rest) 1 _ hr (by simp) (by simp; omega)).mono ?_
  rintro e w1 ⟨rfl, h1, k1⟩
  go_wp2_with fail
  refine (take_yes p rest 0 w1 h1 (by omega) (by omega)).mono ?_
  rintro e w2 ⟨rfl, h2, k2⟩
  obtain ⟨a, cap, w3, hcv, hrow, hst, ha⟩ := run_row_of_str (P := Tryz.prog) (w := w2) 9 22 5 [] Tryz.underlying9 Tryz.underlying22 Tryz.underlying5 (by simp)
  have HR := Lib.hid (And.intro (Rdr.step h2 hst (by simp)) (And.intro hst ha))
  clear hrow hst ha h1 h2
  go_wp2_with fail
  refine wp_loop_rounds 1 ?_
  rw [rounds_succ]
  go_wp2_with fail
  refine (fail_any p _ w3 HR.out.1).mono ?_
  rintro e w4 ⟨rfl, h4, k4⟩
  go_wp2_with fail
  go_ret
  rw [hfin.out]
  exact ⟨rfl, h4, (((k1.trans k2).trans (HR.out.2.1.wide (by simp) (by intro k hk; exact .inl hk))).trans k4)⟩
 ·have hfin : Hid (uptoFin most 0 rest = (0, ⟨rest, false⟩)) := by show _ = _; simp [uptoFin, hm]
  go_enter Tryz.func84, Tryz.ntmps84
  go_wp2_with fail
  refine (take_yes p (0 :: rest) 1 _ hr (by simp) (by simp; omega)).mono ?_
  rintro e w1 ⟨rfl, h1, k1⟩
  go_wp2_with fail
  refine (take_yes p rest 0 w1 h1 (by omega) (by omega)).mono ?_
  rintro e w2 ⟨rfl, h2, k2⟩
  obtain ⟨a, cap, w3, hcv, hrow, hst, ha⟩ := run_row_of_str (P := Tryz.prog) (w := w2) 9 22 5 [] Tryz.underlying9 Tryz.underlying22 Tryz.underlying5 (by simp)
  have HR := Lib.hid (And.intro (Rdr.step h2 hst (by simp)) (And.intro hst ha))
  clear hrow hst ha h1 h2
  go_wp2_with fail
  refine wp_loop_rounds 1 ?_
  rw [rounds_succ]
  go_wp2_with fail
  go_ret
  rw [hfin.out]
  exact ⟨rfl, HR.out.1, ((k1.trans k2).trans (HR.out.2.1.wide (by simp) (by intro k hk; exact .inl hk)))⟩

set_option maxRecDepth 100000 in
set_option maxHeartbeats 1000000 in
/-- A number that is written as it must be. -/
theorem upto_num (p : Nat) (hd : UInt8) (b tail : List UInt8) (most : Int) (w : World) (hr : Rdr w p ⟨hd :: (b ++ tail), false⟩) (hl : (b ++ tail).length < 9223372036854775807) (hb : b.length = hd.toNat) (h8 : b.length ≤ 8) (hpos : 0 < b.length)
  (hz : (((b[0]'hpos).toNat : Int) == 0) = false) :
  Calls Tryz.prog 84 #[.pointer (some ⟨p, 0, none⟩), .int .i64 most] w (UptoPost p (uptoFin most (val b) tail) w) := by
 have htake : Hid ((b ++ tail).take hd.toNat = b) := by show _ = _; rw [← hb]; simp
 have hdrop : Hid ((b ++ tail).drop hd.toNat = tail) := by show _ = _; rw [← hb]; simp
 have hn : hd.toNat ≤ (b ++ tail).length := by simp; omega
 have hpos' : 0 < hd.toNat := by omega
 have h8' : hd.toNat ≤ 8 := by omega
 have HB := Lib.hid hb
 clear hb
 go_enter Tryz.func84, Tryz.ntmps84
 go_wp2_with fail
 refine (take_yes p (hd :: (b ++ tail)) 1 _ hr (by simp) (by simp at hl ⊢; omega)).mono ?_
 rintro e w1 ⟨rfl, h1, k1⟩
 go_wp2_with fail
 refine (take_yes p (b ++ tail) hd.toNat w1 h1 hn (by omega)).mono ?_
 rw [htake.out, hdrop.out]
 rintro e w2 ⟨rfl, h2, k2⟩
 obtain ⟨a, cap, w3, hcv, hrow, hst, ha⟩ := run_row_of_str (P := Tryz.prog) (w := w2) 9 22 5 b Tryz.underlying9 Tryz.underlying22 Tryz.underlying5 (by unfold maxLen; omega)
 have HR := Lib.hid (And.intro (Rdr.step h2 hst (by simp)) (And.intro hst (And.intro ha hrow)))
 clear h2 hrow hst ha h1 hr
 go_wp2_with fail
 go_loop [9, 48] (fun n i => ∃ k : Nat, k ≤ b.length ∧ i = .int .i64 k ∧ n = .int .u64 (val (b.take k))) (fun _ i => b.length - (intOf i).toNat)
 case atStart => exact ⟨0, by omega, rfl, rfl⟩
 case round =>
  obtain ⟨k, hk, rfl, rfl⟩ := hrel
  by_cases hlt : k < b.length
  ·have c0 := (HR.out.2.2.2.cell rfl k (by omega)).1
   simp only [Nat.zero_add, List.getElem?_map, List.getElem?_eq_getElem hlt, Option.map_some, bv] at c0
   have hv := Lib.hid (val_take b k hlt)
   have hV : Hid (val (b.take k) < 72057594037927936) := by
    have h1 := val_lt (b.take k)
    have h2 : (b.take k).length ≤ 7 := by rw [List.length_take]; omega
    have h3 : 256 ^ (b.take k).length ≤ 256 ^ 7 := Nat.pow_le_pow_right (by omega) h2
    show _ < _
    omega
   go_wp2_with fail
   go_round
   case rel => exact ⟨k + 1, by omega, by go_num, by rw [bits_low _ _ hV.out, hv.out]⟩
   case measure => simp [intOf]; omega
  ·obtain rfl : k = b.length := by omega
   have hfull := Lib.hid (List.take_length (l := b))
   rw [hfull.out]
   clear hlt hk
   have hv64 := val_lt b
   have hv64' : (val b : Int) < 18446744073709551616 := by
    have h3 : 256 ^ b.length ≤ 256 ^ 8 := Nat.pow_le_pow_right (by omega) h8
    have : (256 : Nat) ^ 8 = 18446744073709551616 := by decide
    omega
   have HV := Lib.hid hv64'
   clear hv64 hv64'
   by_cases hbig : 4611686018427387903 < val b
   ·have hfin : Hid (uptoFin most (val b) tail = (0, rfail)) := by show _ = _; simp [uptoFin, hbig]
    have hbig' : (4611686018427387903 : Int) < (val b : Int) := by omega
    clear hbig
    go_wp2_with fail
    refine (fail_any p _ w3 HR.out.1).mono ?_
    rintro e w4 ⟨rfl, h4, k4⟩
    go_wp2_with fail
    go_ret
    rw [hfin.out]
    exact ⟨rfl, h4, (((k1.trans k2).trans (HR.out.2.1.wide (by simp) (by intro k hk; exact .inl hk))).trans k4)⟩
   ·have hbig' : (val b : Int) ≤ 4611686018427387903 := by omega
    by_cases hm : most < (val b : Int)
    ·have hfin : Hid (uptoFin most (val b) tail = (0, rfail)) := by show _ = _; simp [uptoFin, hm]
     clear hbig
     go_wp2_with fail
     refine (fail_any p _ w3 HR.out.1).mono ?_
     rintro e w4 ⟨rfl, h4, k4⟩
     go_wp2_with fail
     go_ret
     rw [hfin.out]
     exact ⟨rfl, h4, (((k1.trans k2).trans (HR.out.2.1.wide (by simp) (by intro k hk; exact .inl hk))).trans k4)⟩
    ·have hfin : Hid (uptoFin most (val b) tail = ((val b : Int), RS.mk tail false)) := by show _ = _; simp only [uptoFin]; rw [if_neg (by omega)]
     clear hbig
     have hm' : decide (most < (val b : Int)) = false := by simpa using hm
     have hn' : decide ((4611686018427387903 : Int) < (val b : Int)) = false := by simpa using hbig'
     have hw : IntKind.i64.wrap (val b : Int) = (val b : Int) := IntWalk.i64_in _ (by omega)
     clear hm hbig'
     go_wp2_with fail
     go_ret
     rw [hfin.out]
     exact ⟨rfl, HR.out.1, ((k1.trans k2).trans (HR.out.2.1.wide (by simp) (by intro k hk; exact .inl hk)))⟩

/-- Upto, whatever the reader holds. -/
theorem upto_any (p : Nat) (st : RS) (most : Int) (w : World) (h : Rdr w p st) (hs : st.s.length ≤ 9223372036854775807) : Calls Tryz.prog 84 #[.pointer (some ⟨p, 0, none⟩), .int .i64 most] w (UptoPost p (upto st most) w) := by
 obtain ⟨s, bad⟩ := st
 simp only at hs
 cases bad with
 | true => exact upto_none p _ most w h (.inl rfl)
 | false =>
  cases s with
  | nil => exact upto_none p _ most w h (.inr rfl)
  | cons hd rest =>
   simp at hs
   by_cases c1 : rest.length < hd.toNat
   ·have : upto ⟨hd :: rest, false⟩ most = (0, rfail) := by simp [upto, c1]
    rw [this]
    exact upto_short p hd rest most w h (by omega) c1
   ·by_cases c2 : 8 < hd.toNat ∨ (0 < hd.toNat ∧ rest.head? = some 0)
    ·have : upto ⟨hd :: rest, false⟩ most = (0, rfail) := by simp only [upto]; rw [if_neg (by simp), if_pos (.inr c2)]
     rw [this]
     refine upto_odd p hd rest most w h (by omega) (by omega) ?_
     rcases c2 with c | c
     ·exact .inl c
     ·by_cases c3 : 8 < hd.toNat
      ·exact .inl c3
      ·exact .inr ⟨by omega, c⟩
    ·have : upto ⟨hd :: rest, false⟩ most = uptoFin most (val (rest.take hd.toNat)) (rest.drop hd.toNat) := by
      simp only [upto]; rw [if_neg (by simp), if_neg (by intro h; rcases h with h | h; exact c1 h; exact c2 h)]
     rw [this]
     by_cases c0 : hd.toNat = 0
     ·rw [c0]
      exact upto_zero p hd rest most w h (by omega) c0
     ·have hlen : (rest.take hd.toNat).length = hd.toNat := by rw [List.length_take]; omega
      refine upto_num p hd (rest.take hd.toNat) (rest.drop hd.toNat) most w (by rw [List.take_append_drop]; exact h) (by rw [List.take_append_drop]; omega) hlen (by omega) (by omega) ?_
      have : ¬ rest.head? = some 0 := fun e => c2 (.inr ⟨by omega, e⟩)
      simp
      intro e
      apply this
      cases rest with
      | nil => simp at hlen; omega
      | cons r rest => simp; exact UInt8.toNat_inj.1 (by simpa using e)
end Go.Proofs.YtnkbphecabnnaaaGreatDoor
namespace Go.Proofs.YtnkbphecabnnaaaGreatDoor
open Go.RowKit
set_option linter.unusedSimpArgs false
set_option linter.unusedVariables false
set_option maxRecDepth 100000

theorem uptoFin_nat (most : Int) (n : Nat) (rest : List UInt8) : 0 ≤ (uptoFin most n rest).1 := by unfold uptoFin; split <;> simp
theorem upto_nat (st : RS) (most : Int) : 0 ≤ (upto st most).1 := by
  unfold upto
  split
  · simp
  · split
    · simp
    · split
      · simp
      · exact uptoFin_nat _ _ _
theorem uptoFin_len (most : Int) (n : Nat) (rest : List UInt8) : (uptoFin most n rest).2.s.length ≤ rest.length := by unfold uptoFin; split <;> simp [rfail]
theorem upto_len (st : RS) (most : Int) : (upto st most).2.s.length ≤ st.s.length := by
  unfold upto
  split
  · simp [rfail]
  · split
    · simp [rfail]
    · rename_i h
      rw [h]
      split
      · simp [rfail]
      · have := uptoFin_len most (val (List.take (‹UInt8›).toNat ‹List UInt8›)) (List.drop (‹UInt8›).toNat ‹List UInt8›)
        refine Nat.le_trans this ?_
        simp
        omega

def rtake (st : RS) (n : Nat) : List UInt8 × RS := if st.bad = true ∨ st.s.length < n then ([], rfail) else (st.s.take n, ⟨st.s.drop n, false⟩)
def rtext (st : RS) (most : Int) : List UInt8 × RS := rtake (upto st most).2 (upto st most).1.toNat
def rnum (st : RS) : Int × RS := upto st 4611686018427387903
def rend (st : RS) : Int := if st.bad = true ∨ 0 < st.s.length then 3 else 0

set_option maxHeartbeats 400000 in
theorem rnum_any (p : Nat) (st : RS) (w : World) (h : Rdr w p st) (hs : st.s.length ≤ 9223372036854775807) : Calls Tryz.prog 66 #[.pointer (some ⟨p, 0, none⟩)] w (RdPost p (rnum st).2 (.int .i64 (rnum st).1) w) := by
  go_enter Tryz.func66, Tryz.ntmps66
  go_wp2_with fail
  refine (upto_any p st _ w h hs).mono ?_
  rintro e w1 ⟨rfl, h1, k1⟩
  go_wp2_with fail
  go_ret
  exact ⟨rfl, h1, k1⟩

theorem take_any (p : Nat) (st : RS) (n : Nat) (w : World) (h : Rdr w p st) (hs : st.s.length ≤ 9223372036854775807) :
    Calls Tryz.prog 85 #[.pointer (some ⟨p, 0, none⟩), .int .i64 n] w fun e w' => ∃ ok, RdPost p (rtake st n).2 (.tuple #[Str (rtake st n).1, .bool ok]) w e w' := by
  by_cases hn : st.bad = true ∨ st.s.length < n
  · have e : rtake st n = ([], rfail) := by simp [rtake, hn]
    rw [e]
    exact (take_no p st n w h hn).mono fun e w' hh => ⟨false, hh⟩
  · have e : rtake st n = (st.s.take n, ⟨st.s.drop n, false⟩) := by simp [rtake, hn]
    rw [e]
    obtain ⟨s, bad⟩ := st
    simp at hn
    obtain ⟨rfl, h2⟩ := hn
    exact (take_yes p s n w h h2 hs).mono fun e w' hh => ⟨true, hh⟩

set_option maxHeartbeats 400000 in
theorem rtext_any (p : Nat) (st : RS) (most : Int) (w : World) (h : Rdr w p st) (hs : st.s.length ≤ 9223372036854775807) :
    Calls Tryz.prog 67 #[.pointer (some ⟨p, 0, none⟩), .int .i64 most] w (RdPost p (rtext st most).2 (Str (rtext st most).1) w) := by
  have hnn := Int.toNat_of_nonneg (upto_nat st most)
  have hlen := upto_len st most
  unfold rtext
  generalize hu : (upto st most).2 = st2 at *
  generalize hn : (upto st most).1.toNat = n at *
  have HU := Lib.hid (And.intro hu hnn)
  clear hu hn hnn
  go_enter Tryz.func67, Tryz.ntmps67
  go_wp2_with fail
  refine (upto_any p st _ w h hs).mono ?_
  rintro e w1 ⟨rfl, h1, k1⟩
  rw [← HU.out.2]
  rw [HU.out.1] at h1
  go_wp2_with fail
  refine (take_any p st2 n w1 h1 (by omega)).mono ?_
  rintro e w2 ⟨ok, rfl, h2, k2⟩
  go_wp2_with fail
  go_ret
  exact ⟨rfl, h2, k1.trans k2⟩

set_option maxHeartbeats 400000 in
theorem end_any (p : Nat) (st : RS) (w : World) (h : Rdr w p st) : Calls Tryz.prog 68 #[.pointer (some ⟨p, 0, none⟩)] w fun e w' => e = .returned (.int .i64 (rend st)) ∧ w = w' := by
  obtain ⟨s, bad⟩ := st
  have c0 := h.c0
  have c1 := h.c1
  simp only at c0 c1
  clear h
  cases bad with
  | true =>
    go_enter Tryz.func68, Tryz.ntmps68
    go_wp2
    go_ret
    exact ⟨rfl, rfl⟩
  | false =>
    by_cases hp : 0 < s.length
    · have e : Hid (rend ⟨s, false⟩ = 3) := by show _ = _; simp only [rend]; rw [if_pos (.inr hp)]
      go_enter Tryz.func68, Tryz.ntmps68
      go_wp2
      go_ret
      rw [e.out]
      exact ⟨rfl, rfl⟩
    · have e : Hid (rend ⟨s, false⟩ = 0) := by show _ = _; simp only [rend]; rw [if_neg (fun h => by rcases h with h | h; cases h; exact hp h)]
      go_enter Tryz.func68, Tryz.ntmps68
      go_wp2
      go_ret
      rw [e.out]
      exact ⟨rfl, rfl⟩
end Go.Proofs.YtnkbphecabnnaaaGreatDoor
namespace Go.Proofs.YtnkbphecabnnaaaGreatDoor
set_option linter.unusedSimpArgs false
set_option linter.unusedVariables false
set_option maxRecDepth 100000

theorem val_be (n : Nat) : val (be n) = n := by
  induction n using Nat.strongRecOn with
  | _ n ih =>
    by_cases h : n = 0
    · subst h; rw [be_zero]; rfl
    · rw [be_pos n (by omega), val_snoc, ih (n / 256) (by omega)]
      have : (UInt8.ofNat n).toNat = n % 256 := by simp [UInt8.toNat_ofNat']
      omega
theorem be_len8 (n : Nat) (h : n < 18446744073709551616) : (be n).length ≤ 8 := be_len 8 n (by omega)

end Go.Proofs.YtnkbphecabnnaaaGreatDoor
namespace Go.Proofs.YtnkbphecabnnaaaGreatDoor
open Go.RowKit
set_option linter.unusedSimpArgs false
set_option linter.unusedVariables false
set_option maxRecDepth 100000

/-- What a writer holds: its bytes, its fault. -/
structure WS where
  b : List UInt8
  f : Int

/-- Block `p` is a writer that holds `st`; its footprint is `S`. -/
def Wr (w : World) (p : Nat) (S : List Nat) (st : WS) : Prop :=
  ∃ a cap, Blk w p 93 #[.slice a st.b.length cap, .int .i64 st.f] ∧ Row w 1 a st.b.length cap (st.b.map bv) ∧ p ∉ blks a ∧ S = p :: blks a ∧ st.b.length ≤ 2097152

theorem Wr.step {w w' : World} {p : Nat} {S T T' : List Nat} {st : WS} (h : Wr w p S st) (k : Step T T' w w') (hn : ∀ g, g ∈ S → g ∉ T) : Wr w' p S st := by
  obtain ⟨a, cap, h1, h2, h3, h4, h5⟩ := h
  subst h4
  exact ⟨a, cap, h1.step k (hn p (by simp)), h2.step k (fun g hg => hn g (by simp [hg])), h3, rfl, h5⟩

def wput (st : WS) (s : List UInt8) : WS := if st.f ≠ 0 then st else if 2097152 < st.b.length + s.length then ⟨st.b, 2⟩ else ⟨st.b ++ s, 0⟩

def WrPost (p : Nat) (S : List Nat) (st : WS) (w : World) (e : Ending) (w' : World) : Prop := e = .returned (.tuple #[]) ∧ ∃ S', Wr w' p S' st ∧ Step S S' w w'


set_option maxHeartbeats 400000 in
theorem put_fault (p : Nat) (S : List Nat) (st : WS) (s : List UInt8) (w : World) (h : Wr w p S st) (hf : st.f ≠ 0) :
    Calls Tryz.prog 69 #[.pointer (some ⟨p, 0, none⟩), Str s] w fun e w' => e = .returned (.tuple #[]) ∧ w = w' := by
  obtain ⟨a, cap, h1, h2, h3, h4, h5⟩ := h
  have c1 := h1.cell 1
  simp at c1
  have hf' : (st.f == 0) = false := by simpa using hf
  clear h1 h2 h4
  go_enter Tryz.func69, Tryz.ntmps69
  go_wp2
  go_end0
  exact ⟨rfl, rfl⟩

set_option maxHeartbeats 400000 in
theorem put_long (p : Nat) (S : List Nat) (st : WS) (s : List UInt8) (w : World) (h : Wr w p S st) (hf : st.f = 0) (hl : 2097152 < st.b.length + s.length) (hs : s.length ≤ 1125899906842624) :
    Calls Tryz.prog 69 #[.pointer (some ⟨p, 0, none⟩), Str s] w (WrPost p S ⟨st.b, 2⟩ w) := by
  obtain ⟨b, f⟩ := st
  simp only at hf hl
  subst hf
  obtain ⟨a, cap, h1, h2, h3, h4, h5⟩ := h
  simp only at h1 h2 h5
  have c1 := h1.cell 1
  have c0 := h1.cell 0
  have f1 := h1.frozen 1
  simp at c1 c0
  have H := Lib.hid (And.intro h1 (And.intro h2 h4))
  clear h1 h2 h4
  have hl' : (2097152 : Int) < (b.length : Int) + (s.length : Int) := by omega
  go_enter Tryz.func69, Tryz.ntmps69
  go_wp2
  go_end0
  obtain ⟨h1, h2, h4⟩ := H.out
  refine ⟨rfl, S, ⟨a, cap, h1.set 1 (.int .i64 2), h2.step ((Step.refl [p] w).setCell (.inl (by simp)) _) (by intro g hg; simp; rintro rfl; exact h3 hg), h3, h4, h5⟩, ?_⟩
  exact (Step.refl S w).setCell (.inl (by simp [h4])) _

set_option maxHeartbeats 400000 in
theorem put_ok (p : Nat) (S : List Nat) (st : WS) (s : List UInt8) (w : World) (h : Wr w p S st) (hf : st.f = 0) (hl : st.b.length + s.length ≤ 2097152) :
    Calls Tryz.prog 69 #[.pointer (some ⟨p, 0, none⟩), Str s] w (WrPost p S ⟨st.b ++ s, 0⟩ w) := by
  obtain ⟨b, f⟩ := st
  simp only at hf hl
  subst hf
  obtain ⟨a, cap, h1, h2, h3, h4, h5⟩ := h
  simp only at h1 h2 h5
  have c1 := h1.cell 1
  have c0 := h1.cell 0
  simp at c1 c0
  have H := Lib.hid (And.intro h1 (And.intro h2 (And.intro h4 h3)))
  clear h1 h2 h4
  have hl' : (b.length : Int) + (s.length : Int) ≤ 2097152 := by omega
  obtain ⟨i0, hi, hz0, hz1, hz2⟩ := info_parts Tryz.info_bytes
  have HI := Lib.hid (And.intro hi (And.intro hz0 (And.intro hz1 hz2)))
  clear hi hz0 hz1 hz2
  go_enter Tryz.func69, Tryz.ntmps69
  go_wp2_with (at_builtin; refine wpList_append_row rfl (.tmp 8) (.tmp 9) 22 9 rfl 5 i0 _ 1 1 Tryz.underlying22 HI.out.1 HI.out.2.1 HI.out.2.2.1 HI.out.2.2.2 rfl rfl H.out.2.1 rfl (Src.str w 9 Tryz.underlying9 s) (by unfold maxLen; omega) (by omega) (by omega) ?_; intro a' cap' w' hr hst; have hk := hst.cell c0 (H.out.2.2.2); have hkf := (H.out.1.step hst H.out.2.2.2).frozen 0)
  go_end0
  obtain ⟨h1, h2, h4, _⟩ := H.out
  have hb := h1.step hst h3
  have hp : p ∉ blks a' := fun hm => by
    rcases hst.fresh p hm with h | h
    · exact h3 h
    · have := h1.lt; omega
  refine ⟨rfl, p :: blks a', ⟨a', cap', by simpa using hb.set 0 (.slice a' (b.length + s.length) cap'), ?_, hp, rfl, by simpa using hl⟩, ?_⟩
  · have := hr.step ((Step.refl [p] w').setCell (p := ⟨p, 0, none⟩) (.inl (by simp)) (.slice a' (b.length + s.length) cap')) (by intro g hg; simp; rintro rfl; exact hp hg)
    simpa using this
  · subst h4
    exact (hst.wide (by simp; intro k hk; exact .inr hk) (by intro k hk; simp at hk ⊢; rcases hk with rfl | hk; exact .inl (.inl rfl); exact .inr (.inl hk))).setCell (.inl (by simp)) _

/-- put, whatever the writer holds. -/
theorem put_any (p : Nat) (S : List Nat) (st : WS) (s : List UInt8) (w : World) (h : Wr w p S st) (hs : s.length ≤ 1125899906842624) :
    Calls Tryz.prog 69 #[.pointer (some ⟨p, 0, none⟩), Str s] w (WrPost p S (wput st s) w) := by
  by_cases hf : st.f = 0
  · by_cases hl : 2097152 < st.b.length + s.length
    · have e : wput st s = ⟨st.b, 2⟩ := by simp [wput, hf, hl]
      rw [e]; exact put_long p S st s w h hf hl hs
    · have e : wput st s = ⟨st.b ++ s, 0⟩ := by simp [wput, hf, hl]
      rw [e]; exact put_ok p S st s w h hf (by omega)
  · have e : wput st s = st := by simp [wput, hf]
    rw [e]
    exact (put_fault p S st s w h hf).mono fun e w' ⟨he, hw⟩ => by subst hw; exact ⟨he, S, h, Step.refl _ _⟩
end Go.Proofs.YtnkbphecabnnaaaGreatDoor
namespace Go.Proofs.YtnkbphecabnnaaaGreatDoor
open Go.RowKit
set_option linter.unusedSimpArgs false
set_option linter.unusedVariables false
set_option maxRecDepth 100000

def wnum (st : WS) (n : Int) : WS := if st.f = 0 ∧ (n < 0 ∨ 4611686018427387903 < n) then ⟨st.b, 1⟩ else wput st (numB n.toNat)
def wtext (st : WS) (s : List UInt8) : WS := wput st (numB s.length ++ s)
set_option maxHeartbeats 400000 in
theorem text_any (p : Nat) (S : List Nat) (st : WS) (s : List UInt8) (w : World) (h : Wr w p S st) (hs : s.length ≤ 562949953421312) :
    Calls Tryz.prog 49 #[.pointer (some ⟨p, 0, none⟩), Str s] w (WrPost p S (wtext st s) w) := by
  have hb := numB_len s.length (by omega)
  have hb2 : (numB s.length).length + s.length ≤ 9223372036854775807 := by omega
  go_enter Tryz.func49, Tryz.ntmps49
  go_wp2_with fail
  refine (number_any _ (by omega) _).mono ?_
  rintro e w1 ⟨rfl, hk⟩
  go_wp2_with fail
  refine (put_any p S st (numB s.length ++ s) w1 (h.step hk (by simp)) (by simp; omega)).mono ?_
  rintro e w2 ⟨rfl, S', h2, hk2⟩
  go_wp2_with fail
  go_end0
  exact ⟨rfl, S', h2, (hk.keep S).trans hk2⟩

set_option maxHeartbeats 400000 in
theorem num_any (p : Nat) (S : List Nat) (st : WS) (n : Int) (hn : n < 9223372036854775808) (w : World) (h : Wr w p S st) :
    Calls Tryz.prog 48 #[.pointer (some ⟨p, 0, none⟩), .int .i64 n] w (WrPost p S (wnum st n) w) := by
  have hb := numB_len n.toNat (by omega)
  obtain ⟨a, cap, g1, g2, g3, g4, g5⟩ := h
  have c1 := g1.cell 1
  have f1 := g1.frozen 1
  simp at c1
  have H := Lib.hid (And.intro g1 (And.intro g2 (And.intro g4 (And.intro g3 g5))))
  clear g1 g2 g4 g3 g5
  have hw : Hid (Wr w p S st) := ⟨a, cap, H.out.1, H.out.2.1, H.out.2.2.2.1, H.out.2.2.1, H.out.2.2.2.2⟩
  by_cases hf : st.f = 0
  · have hfb : (st.f == 0) = true := by simpa using hf
    have hfn := Lib.hid hf
    clear hf
    by_cases hr : n < 0 ∨ 4611686018427387903 < n
    · have e : wnum st n = ⟨st.b, 1⟩ := by simp [wnum, hfn.out, hr]
      have he := Lib.hid e
      clear e
      rcases hr with hr | hr
      all_goals
        go_enter Tryz.func48, Tryz.ntmps48
        go_wp2_with fail
        refine bodyPost_ret (results_none rfl _ _ _) rfl ?_
        rw [he.out]
        obtain ⟨h1, h2, h4, h3, h5⟩ := H.out
        refine ⟨rfl, S, ⟨a, cap, h1.set 1 (.int .i64 1), h2.step ((Step.refl [p] w).setCell (.inl (by simp)) _) (by intro g hg; simp; rintro rfl; exact h3 hg), h3, h4, h5⟩, ?_⟩
        exact (Step.refl S w).setCell (.inl (by simp [h4])) _
    · have e : wnum st n = wput st (numB n.toNat) := by simp only [wnum]; rw [if_neg (by omega)]
      rw [e]
      clear e
      have hr1 : 0 ≤ n := by omega
      have hr2 : n ≤ 4611686018427387903 := by omega
      clear hr
      go_enter Tryz.func48, Tryz.ntmps48
      go_wp2_with fail
      refine (number_any _ (by omega) _).mono ?_
      rintro e w1 ⟨rfl, hk⟩
      go_wp2_with fail
      refine (put_any p S st _ w1 (hw.out.step hk (by simp)) (by omega)).mono ?_
      rintro e w2 ⟨rfl, S', h2, hk2⟩
      go_wp2_with fail
      go_end0
      exact ⟨rfl, S', h2, (hk.keep S).trans hk2⟩
  · have hfb : (st.f == 0) = false := by simpa using hf
    have e : wnum st n = wput st (numB n.toNat) := by simp only [wnum]; rw [if_neg (by omega)]
    rw [e]
    clear e
    go_enter Tryz.func48, Tryz.ntmps48
    go_wp2_with fail
    refine (number_any _ (by omega) _).mono ?_
    rintro e w1 ⟨rfl, hk⟩
    go_wp2_with fail
    refine (put_any p S st _ w1 (hw.out.step hk (by simp)) (by omega)).mono ?_
    rintro e w2 ⟨rfl, S', h2, hk2⟩
    go_wp2_with fail
    go_end0
    exact ⟨rfl, S', h2, (hk.keep S).trans hk2⟩

/-- What a writer tells. -/
def wbytes (st : WS) : List UInt8 × Int := if st.f = 0 then (st.b, 0) else ([], st.f)

set_option maxHeartbeats 400000 in
theorem bytes_any (p : Nat) (S : List Nat) (st : WS) (w : World) (h : Wr w p S st) :
    Calls Tryz.prog 50 #[.pointer (some ⟨p, 0, none⟩)] w fun e w' => e = .returned (.tuple #[Str (wbytes st).1, .int .i64 (wbytes st).2]) ∧ Step [] [] w w' := by
  obtain ⟨a, cap, g1, g2, g3, g4, g5⟩ := h
  have c1 := g1.cell 1
  have c0 := g1.cell 0
  simp at c1 c0
  clear g1 g3 g4 g5
  by_cases hf : st.f = 0
  · have hfb : (st.f == 0) = true := by simpa using hf
    have e : Hid (wbytes st = (st.b, 0)) := by show wbytes st = (st.b, 0); simp [wbytes, hf]
    clear hf
    have hcv := run_str_of_row (P := Tryz.prog) 22 9 5 Tryz.underlying22 Tryz.underlying5 Tryz.underlying9 g2
    clear g2
    go_enter Tryz.func50, Tryz.ntmps50
    go_wp2
    go_ret2
    rw [e.out]
    exact ⟨rfl, Step.refl _ _⟩
  · have hfb : (st.f == 0) = false := by simpa using hf
    have e : Hid (wbytes st = ([], st.f)) := by show wbytes st = ([], st.f); simp [wbytes, hf]
    clear hf g2
    go_enter Tryz.func50, Tryz.ntmps50
    go_wp2
    go_region
    all_goals
      go_wp2
      go_ret2
      rw [e.out]
      exact ⟨rfl, (Step.refl _ _).drew⟩
end Go.Proofs.YtnkbphecabnnaaaGreatDoor
namespace Go.Proofs.YtnkbphecabnnaaaGreatDoor
open Go.RowKit
set_option linter.unusedSimpArgs false
set_option linter.unusedVariables false
set_option maxRecDepth 100000

/-- A thing. -/
structure It where
  k : Int
  n : Int
  s : List UInt8
  b : Bool

/-- A thing that fits: its number is an int, its text is not too long. -/
def It.ok (x : It) : Prop := x.n < 9223372036854775808 ∧ x.s.length ≤ 562949953421312

end Go.Proofs.YtnkbphecabnnaaaGreatDoor
namespace Go.Proofs.YtnkbphecabnnaaaGreatDoor
open Go.RowKit
set_option linter.unusedSimpArgs false
set_option linter.unusedVariables false
set_option maxRecDepth 100000

/-- A thing's bytes. -/
def itB (x : It) : List UInt8 := if x.k = 1 then numB x.s.length ++ x.s else if x.k = 2 then numB (if x.b then 1 else 0) else numB x.n.toNat

/-- What the reference writes: the bytes, or the fault's number. -/
def written (out : List UInt8) : List It → List UInt8 × Int
  | [] => (out, 0)
  | x :: l => if x.k = 0 ∧ (x.n < 0 ∨ 4611686018427387903 < x.n) then ([], 1) else if 2097152 < out.length + (itB x).length then ([], 2) else written (out ++ itB x) l

end Go.Proofs.YtnkbphecabnnaaaGreatDoor
namespace Go.Proofs.YtnkbphecabnnaaaGreatDoor
open Go.RowKit
set_option linter.unusedSimpArgs false
set_option linter.unusedVariables false
set_option maxRecDepth 100000

/-! ### The plain law -/
/-- Tame: the three kinds. -/
def It.tame (x : It) : Prop := x.k = 0 ∨ x.k = 1 ∨ x.k = 2

/-! ### awake -/
end Go.Proofs.YtnkbphecabnnaaaGreatDoor
namespace Go.Proofs.YtnkbphecabnnaaaGreatDoor
set_option linter.unusedSimpArgs false
set_option linter.unusedVariables false
set_option maxRecDepth 100000

theorem head_app {α : Type} (l m : List α) (h : l ≠ []) : (l ++ m).head? = l.head? := by
  cases l with
  | nil => exact absurd rfl h
  | cons a l => rfl

theorem be_head (n : Nat) : (be n).head? ≠ some 0 := by
  induction n using Nat.strongRecOn with
  | _ n ih =>
    by_cases h : n = 0
    · subst h; rw [be_zero]; simp
    · rw [be_pos n (by omega)]
      by_cases h2 : n / 256 = 0
      · rw [h2, be_zero]
        simp
        intro e
        have := congrArg UInt8.toNat e
        simp [UInt8.toNat_ofNat'] at this
        omega
      · have h3 : be (n / 256) ≠ [] := fun e => by
          have := val_be (n / 256)
          rw [e] at this
          simp [val] at this
          omega
        rw [head_app _ _ h3]
        exact ih (n / 256) (by omega)

theorem upto_back (n : Nat) (rest : List UInt8) (most : Int) (hn : n ≤ 4611686018427387903) (hm : (n : Int) ≤ most) : upto ⟨numB n ++ rest, false⟩ most = ((n : Int), ⟨rest, false⟩) := by
  have hl := be_len8 n (by omega)
  have hsz : (UInt8.ofNat (be n).length).toNat = (be n).length := by simp [UInt8.toNat_ofNat']; omega
  simp only [upto, numB, List.cons_append, hsz]
  rw [if_neg (by simp), if_neg, List.take_left, List.drop_left, val_be]
  · simp only [uptoFin]
    rw [if_neg (by omega)]
  · rintro (h | h | ⟨h1, h2⟩)
    · simp at h; omega
    · omega
    · rw [head_app _ _ (by intro e; rw [e] at h1; simp at h1)] at h2
      exact be_head n h2

theorem text_back (s rest : List UInt8) (most : Int) (hs : s.length ≤ 4611686018427387903) (hm : (s.length : Int) ≤ most) : rtext ⟨numB s.length ++ s ++ rest, false⟩ most = (s, ⟨rest, false⟩) := by
  rw [rtext, List.append_assoc, upto_back _ _ _ hs hm]
  have : ¬ (s ++ rest).length < s.length := by simp
  simp only [rtake]
  rw [if_neg (by simp)]
  simp

end Go.Proofs.YtnkbphecabnnaaaGreatDoor
