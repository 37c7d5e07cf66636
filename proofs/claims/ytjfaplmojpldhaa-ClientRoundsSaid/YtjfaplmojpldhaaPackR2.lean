/-
  pack.Reader: Num, Text, Flag, Left, End. Condition: what is ahead has fewer than 2^63 bytes.
-/
import Derived.Test.YtjfaplmojpldhaaPackR
namespace Go.Proofs.Ytjfaplmojpldhaa
open Go.RowKit
set_option linter.unusedSimpArgs false
set_option linter.unusedVariables false
set_option maxRecDepth 100000

theorem uptoFin_nat (most : Int) (n : Nat) (rest : List UInt8) : 0 ≤ (uptoFin most n rest).1 := by unfold uptoFin; split <;> simp
theorem upto_nat (st : RS) (most : Int) : 0 ≤ (upto st most).1 := by
  unfold upto
  split
  · simp
  · split
    · simp
    · split
      · simp
      · exact uptoFin_nat _ _ _
theorem uptoFin_len (most : Int) (n : Nat) (rest : List UInt8) : (uptoFin most n rest).2.s.length ≤ rest.length := by unfold uptoFin; split <;> simp [rfail]
theorem upto_len (st : RS) (most : Int) : (upto st most).2.s.length ≤ st.s.length := by
  unfold upto
  split
  · simp [rfail]
  · split
    · simp [rfail]
    · rename_i h
      rw [h]
      split
      · simp [rfail]
      · have := uptoFin_len most (val (List.take (‹UInt8›).toNat ‹List UInt8›)) (List.drop (‹UInt8›).toNat ‹List UInt8›)
        refine Nat.le_trans this ?_
        simp
        omega

def rtake (st : RS) (n : Nat) : List UInt8 × RS := if st.bad = true ∨ st.s.length < n then ([], rfail) else (st.s.take n, ⟨st.s.drop n, false⟩)
def rtext (st : RS) (most : Int) : List UInt8 × RS := rtake (upto st most).2 (upto st most).1.toNat
def rnum (st : RS) : Int × RS := upto st 4611686018427387903
def rflag (st : RS) : Bool × RS := ((upto st 1).1 == 1, (upto st 1).2)
def rend (st : RS) : Int := if st.bad = true ∨ 0 < st.s.length then 3 else 0

set_option maxHeartbeats 400000 in
theorem rnum_any (p : Nat) (st : RS) (w : World) (h : Rdr w p st) (hs : st.s.length ≤ 9223372036854775807) : Calls Try.prog 66 #[.pointer (some ⟨p, 0, none⟩)] w (RdPost p (rnum st).2 (.int .i64 (rnum st).1) w) := by
  go_enter Try.func66, Try.ntmps66
  go_wp2_with fail
  refine (upto_any p st _ w h hs).mono ?_
  rintro e w1 ⟨rfl, h1, k1⟩
  go_wp2_with fail
  go_ret
  exact ⟨rfl, h1, k1⟩

set_option maxHeartbeats 400000 in
theorem rnum_nil (w : World) : Calls Try.prog 66 #[.pointer none] w fun e w' => e = .returned (.int .i64 0) ∧ w = w' := by
  go_enter Try.func66, Try.ntmps66
  go_wp2_with fail
  refine (upto_nil _ w).mono ?_
  rintro e w1 ⟨rfl, rfl⟩
  go_wp2_with fail
  go_ret
  exact ⟨rfl, rfl⟩

theorem take_any (p : Nat) (st : RS) (n : Nat) (w : World) (h : Rdr w p st) (hs : st.s.length ≤ 9223372036854775807) :
    Calls Try.prog 50 #[.pointer (some ⟨p, 0, none⟩), .int .i64 n] w fun e w' => ∃ ok, RdPost p (rtake st n).2 (.tuple #[Str (rtake st n).1, .bool ok]) w e w' := by
  by_cases hn : st.bad = true ∨ st.s.length < n
  · have e : rtake st n = ([], rfail) := by simp [rtake, hn]
    rw [e]
    exact (take_no p st n w h hn).mono fun e w' hh => ⟨false, hh⟩
  · have e : rtake st n = (st.s.take n, ⟨st.s.drop n, false⟩) := by simp [rtake, hn]
    rw [e]
    obtain ⟨s, bad⟩ := st
    simp at hn
    obtain ⟨rfl, h2⟩ := hn
    exact (take_yes p s n w h h2 hs).mono fun e w' hh => ⟨true, hh⟩

set_option maxHeartbeats 400000 in
theorem rtext_any (p : Nat) (st : RS) (most : Int) (w : World) (h : Rdr w p st) (hs : st.s.length ≤ 9223372036854775807) :
    Calls Try.prog 69 #[.pointer (some ⟨p, 0, none⟩), .int .i64 most] w (RdPost p (rtext st most).2 (Str (rtext st most).1) w) := by
  have hnn := Int.toNat_of_nonneg (upto_nat st most)
  have hlen := upto_len st most
  unfold rtext
  generalize hu : (upto st most).2 = st2 at *
  generalize hn : (upto st most).1.toNat = n at *
  have HU := Lib.hid (And.intro hu hnn)
  clear hu hn hnn
  go_enter Try.func69, Try.ntmps69
  go_wp2_with fail
  refine (upto_any p st _ w h hs).mono ?_
  rintro e w1 ⟨rfl, h1, k1⟩
  rw [← HU.out.2]
  rw [HU.out.1] at h1
  go_wp2_with fail
  refine (take_any p st2 n w1 h1 (by omega)).mono ?_
  rintro e w2 ⟨ok, rfl, h2, k2⟩
  go_wp2_with fail
  go_ret
  exact ⟨rfl, h2, k1.trans k2⟩

set_option maxHeartbeats 400000 in
theorem rtext_nil (most : Int) (w : World) : Calls Try.prog 69 #[.pointer none, .int .i64 most] w fun e w' => e = .returned (Str []) ∧ w = w' := by
  go_enter Try.func69, Try.ntmps69
  go_wp2_with fail
  refine (upto_nil _ w).mono ?_
  rintro e w1 ⟨rfl, rfl⟩
  go_wp2_with fail
  refine (take_nil _ w).mono ?_
  rintro e w1 ⟨rfl, rfl⟩
  go_wp2_with fail
  go_ret
  exact ⟨rfl, rfl⟩

set_option maxHeartbeats 400000 in
theorem rflag_any (p : Nat) (st : RS) (w : World) (h : Rdr w p st) (hs : st.s.length ≤ 9223372036854775807) : Calls Try.prog 67 #[.pointer (some ⟨p, 0, none⟩)] w (RdPost p (rflag st).2 (.bool (rflag st).1) w) := by
  unfold rflag
  go_enter Try.func67, Try.ntmps67
  go_wp2_with fail
  refine (upto_any p st _ w h hs).mono ?_
  rintro e w1 ⟨rfl, h1, k1⟩
  go_wp2_with fail
  go_ret
  exact ⟨rfl, h1, k1⟩

set_option maxHeartbeats 400000 in
theorem rflag_nil (w : World) : Calls Try.prog 67 #[.pointer none] w fun e w' => e = .returned (.bool false) ∧ w = w' := by
  go_enter Try.func67, Try.ntmps67
  go_wp2_with fail
  refine (upto_nil _ w).mono ?_
  rintro e w1 ⟨rfl, rfl⟩
  go_wp2_with fail
  go_ret
  exact ⟨rfl, rfl⟩

set_option maxHeartbeats 400000 in
theorem left_any (p : Nat) (st : RS) (w : World) (h : Rdr w p st) : Calls Try.prog 68 #[.pointer (some ⟨p, 0, none⟩)] w fun e w' => e = .returned (.int .i64 st.s.length) ∧ w = w' := by
  have c0 := h.c0
  clear h
  go_enter Try.func68, Try.ntmps68
  go_wp2
  go_ret
  exact ⟨rfl, rfl⟩
set_option maxHeartbeats 400000 in
theorem left_nil (w : World) : Calls Try.prog 68 #[.pointer none] w fun e w' => e = .returned (.int .i64 0) ∧ w = w' := by
  go_enter Try.func68, Try.ntmps68
  go_wp2
  go_ret
  exact ⟨rfl, rfl⟩

set_option maxHeartbeats 400000 in
theorem end_any (p : Nat) (st : RS) (w : World) (h : Rdr w p st) : Calls Try.prog 34 #[.pointer (some ⟨p, 0, none⟩)] w fun e w' => e = .returned (.int .i64 (rend st)) ∧ w = w' := by
  obtain ⟨s, bad⟩ := st
  have c0 := h.c0
  have c1 := h.c1
  simp only at c0 c1
  clear h
  cases bad with
  | true =>
    go_enter Try.func34, Try.ntmps34
    go_wp2
    go_ret
    exact ⟨rfl, rfl⟩
  | false =>
    by_cases hp : 0 < s.length
    · have e : Hid (rend ⟨s, false⟩ = 3) := by show _ = _; simp only [rend]; rw [if_pos (.inr hp)]
      go_enter Try.func34, Try.ntmps34
      go_wp2
      go_ret
      rw [e.out]
      exact ⟨rfl, rfl⟩
    · have e : Hid (rend ⟨s, false⟩ = 0) := by show _ = _; simp only [rend]; rw [if_neg (fun h => by rcases h with h | h; cases h; exact hp h)]
      go_enter Try.func34, Try.ntmps34
      go_wp2
      go_ret
      rw [e.out]
      exact ⟨rfl, rfl⟩
set_option maxHeartbeats 400000 in
theorem end_nil (w : World) : Calls Try.prog 34 #[.pointer none] w fun e w' => e = .returned (.int .i64 3) ∧ w = w' := by
  go_enter Try.func34, Try.ntmps34
  go_wp2
  go_ret
  exact ⟨rfl, rfl⟩
end Go.Proofs.Ytjfaplmojpldhaa
