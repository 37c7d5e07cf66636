/-
  pack.Reader: what each method does to a reader, and on none. Conditions: a count that is taken is not below 0.
-/
import Derived.Test.YtjfaplmojpldhaaPackNum
import Derived.Test.YtjfaplmojpldhaaMem
namespace Go.Proofs.Ytjfaplmojpldhaa
open Go.RowKit
set_option linter.unusedSimpArgs false
set_option linter.unusedVariables false
set_option maxRecDepth 100000

/-- What a reader holds: what is ahead, whether there was a fault. -/
structure RS where
  s : List UInt8
  bad : Bool

def Rdr (w : World) (p : Nat) (st : RS) : Prop := Blk w p 124 #[Str st.s, .bool st.bad]
def rfail : RS := ⟨[], true⟩

theorem Rdr.step {w w' : World} {p : Nat} {T T' : List Nat} {st : RS} (h : Rdr w p st) (k : Step T T' w w') (hn : p ∉ T) : Rdr w' p st := Blk.step h k hn
theorem Rdr.c0 {w : World} {p : Nat} {st : RS} (h : Rdr w p st) : w.cell? ⟨p, 0, none⟩ = some (Str st.s) := by have := Blk.cell h 0; simpa using this
theorem Rdr.c1 {w : World} {p : Nat} {st : RS} (h : Rdr w p st) : w.cell? ⟨p, 1, none⟩ = some (.bool st.bad) := by have := Blk.cell h 1; simpa using this

def RdPost (p : Nat) (st : RS) (v : Value) (w : World) (e : Ending) (w' : World) : Prop := e = .returned v ∧ Rdr w' p st ∧ Step [p] [p] w w'

set_option maxHeartbeats 400000 in
theorem read_any (s : List UInt8) (w : World) : Calls Try.prog 32 #[Str s] w fun e w' => e = .returned (.pointer (some ⟨w.heap.size, 0, none⟩)) ∧ w' = w.alloc (.cells #[Str s, .bool false] 124) := by
  go_enter Try.func32, Try.ntmps32
  go_wp2
  go_ret
  exact ⟨rfl, rfl⟩

set_option maxHeartbeats 400000 in
theorem fail_nil (w : World) : Calls Try.prog 51 #[.pointer none] w fun e w' => e = .returned (.bool false) ∧ w = w' := by
  go_enter Try.func51, Try.ntmps51
  go_wp2
  go_ret
  exact ⟨rfl, rfl⟩

set_option maxHeartbeats 400000 in
theorem fail_any (p : Nat) (st : RS) (w : World) (h : Rdr w p st) : Calls Try.prog 51 #[.pointer (some ⟨p, 0, none⟩)] w (RdPost p rfail (.bool false) w) := by
  have c0 := h.c0
  have c1 := h.c1
  have f0 := Blk.frozen h 0
  have f1 := Blk.frozen h 1
  have H := Lib.hid h
  clear h
  go_enter Try.func51, Try.ntmps51
  go_wp2
  go_ret
  refine ⟨rfl, ?_, ((Step.refl [p] w).setCell (.inl (by simp)) _).setCell (.inl (by simp)) _⟩
  exact (Blk.set H.out 0 (Str [])).set 1 (.bool true)

set_option maxHeartbeats 400000 in
theorem take_nil (n : Int) (w : World) : Calls Try.prog 50 #[.pointer none, .int .i64 n] w fun e w' => e = .returned (.tuple #[Str [], .bool false]) ∧ w = w' := by
  go_enter Try.func50, Try.ntmps50
  go_wp2_with fail
  refine (fail_nil _).mono ?_
  rintro e w1 ⟨rfl, rfl⟩
  go_wp2_with fail
  go_ret2
  exact ⟨rfl, rfl⟩

set_option maxHeartbeats 400000 in
theorem take_no (p : Nat) (st : RS) (n : Nat) (w : World) (h : Rdr w p st) (hn : st.bad = true ∨ st.s.length < n) : Calls Try.prog 50 #[.pointer (some ⟨p, 0, none⟩), .int .i64 n] w (RdPost p rfail (.tuple #[Str [], .bool false]) w) := by
  obtain ⟨s, bad⟩ := st
  simp only at hn
  have c0 := h.c0
  have c1 := h.c1
  simp only at c0 c1
  have H := Lib.hid h
  clear h
  cases bad with
  | true =>
    clear hn
    go_enter Try.func50, Try.ntmps50
    go_wp2_with fail
    refine (fail_any p _ _ H.out).mono ?_
    rintro e w1 ⟨rfl, h1, k1⟩
    go_wp2_with fail
    go_ret2
    exact ⟨rfl, h1, k1⟩
  | false =>
    have hl : (s.length : Int) < n := by
      rcases hn with h | h
      · cases h
      · omega
    clear hn
    go_enter Try.func50, Try.ntmps50
    go_wp2_with fail
    refine (fail_any p _ _ H.out).mono ?_
    rintro e w1 ⟨rfl, h1, k1⟩
    go_wp2_with fail
    go_ret2
    exact ⟨rfl, h1, k1⟩

set_option maxHeartbeats 400000 in
theorem take_yes (p : Nat) (s : List UInt8) (n : Nat) (w : World) (h : Rdr w p ⟨s, false⟩) (hn : n ≤ s.length) (hs : s.length ≤ 9223372036854775807) :
    Calls Try.prog 50 #[.pointer (some ⟨p, 0, none⟩), .int .i64 n] w (RdPost p ⟨s.drop n, false⟩ (.tuple #[Str (s.take n), .bool true]) w) := by
  have c0 := h.c0
  have c1 := h.c1
  simp only at c0 c1
  have f0 := Blk.frozen h 0
  have H := Lib.hid h
  clear h
  have hl : (n : Int) ≤ s.length := by omega
  go_enter Try.func50, Try.ntmps50
  go_wp2_with fail
  go_ret2
  exact ⟨rfl, Blk.set H.out 0 (Str (s.drop n)), (Step.refl [p] w).setCell (.inl (by simp)) _⟩

/-! ### Upto -/
def val (l : List UInt8) : Nat := l.foldl (fun n c => n * 256 + c.toNat) 0
theorem val_snoc (l : List UInt8) (c : UInt8) : val (l ++ [c]) = val l * 256 + c.toNat := by simp [val]
theorem val_lt (l : List UInt8) : val l < 256 ^ l.length := by
  suffices h : ∀ m : List UInt8, val m.reverse < 256 ^ m.length by
    have := h l.reverse
    simpa using this
  intro m
  induction m with
  | nil => simp [val]
  | cons c m ih =>
    rw [List.reverse_cons, val_snoc, List.length_cons, Nat.pow_succ]
    have := c.toNat_lt
    omega

/-- The number's end: it is one if it isn't too great. -/
def uptoFin (most : Int) (n : Nat) (rest : List UInt8) : Int × RS := if 4611686018427387903 < n ∨ most < n then (0, rfail) else (n, ⟨rest, false⟩)
def upto (st : RS) (most : Int) : Int × RS :=
  if st.bad then (0, rfail) else match st.s with
  | [] => (0, rfail)
  | h :: rest => if rest.length < h.toNat ∨ 8 < h.toNat ∨ (0 < h.toNat ∧ rest.head? = some 0) then (0, rfail) else uptoFin most (val (rest.take h.toNat)) (rest.drop h.toNat)

def UptoPost (p : Nat) (r : Int × RS) (w : World) (e : Ending) (w' : World) : Prop := RdPost p r.2 (.int .i64 r.1) w e w'

set_option maxHeartbeats 400000 in
theorem upto_nil (most : Int) (w : World) : Calls Try.prog 33 #[.pointer none, .int .i64 most] w fun e w' => e = .returned (.int .i64 0) ∧ w = w' := by
  go_enter Try.func33, Try.ntmps33
  go_wp2_with fail
  refine (take_nil _ _).mono ?_
  rintro e w1 ⟨rfl, rfl⟩
  go_wp2_with fail
  go_ret
  exact ⟨rfl, rfl⟩

set_option maxHeartbeats 400000 in
theorem upto_none (p : Nat) (st : RS) (most : Int) (w : World) (h : Rdr w p st) (hn : st.bad = true ∨ st.s = []) : Calls Try.prog 33 #[.pointer (some ⟨p, 0, none⟩), .int .i64 most] w (UptoPost p (0, rfail) w) := by
  have hn' : Hid (st.bad = true ∨ st.s.length < 1) := by
    rcases hn with h | h
    · exact .inl h
    · exact .inr (by rw [h]; simp)
  clear hn
  go_enter Try.func33, Try.ntmps33
  go_wp2_with fail
  refine (take_no p st 1 _ h hn'.out).mono ?_
  rintro e w1 ⟨rfl, h1, k1⟩
  go_wp2_with fail
  go_ret
  exact ⟨rfl, h1, k1⟩

set_option maxHeartbeats 400000 in
theorem upto_short (p : Nat) (h : UInt8) (rest : List UInt8) (most : Int) (w : World) (hr : Rdr w p ⟨h :: rest, false⟩) (hl : rest.length < 9223372036854775807) (hn : rest.length < h.toNat) :
    Calls Try.prog 33 #[.pointer (some ⟨p, 0, none⟩), .int .i64 most] w (UptoPost p (0, rfail) w) := by
  go_enter Try.func33, Try.ntmps33
  go_wp2_with fail
  refine (take_yes p (h :: rest) 1 _ hr (by simp) (by simp; omega)).mono ?_
  rintro e w1 ⟨rfl, h1, k1⟩
  go_wp2_with fail
  refine (take_no p _ h.toNat w1 h1 (.inr hn)).mono ?_
  rintro e w2 ⟨rfl, h2, k2⟩
  go_wp2_with fail
  refine (fail_any p _ w2 h2).mono ?_
  rintro e w3 ⟨rfl, h3, k3⟩
  go_wp2_with fail
  go_ret
  exact ⟨rfl, h3, (k1.trans k2).trans k3⟩

set_option maxHeartbeats 400000 in
/-- More than eight bytes, or a nought ahead. -/
theorem upto_odd (p : Nat) (h : UInt8) (rest : List UInt8) (most : Int) (w : World) (hr : Rdr w p ⟨h :: rest, false⟩) (hl : rest.length < 9223372036854775807) (hn : h.toNat ≤ rest.length) (ho : 8 < h.toNat ∨ (h.toNat ≤ 8 ∧ 0 < h.toNat ∧ rest.head? = some 0)) :
    Calls Try.prog 33 #[.pointer (some ⟨p, 0, none⟩), .int .i64 most] w (UptoPost p (0, rfail) w) := by
  go_enter Try.func33, Try.ntmps33
  go_wp2_with fail
  refine (take_yes p (h :: rest) 1 _ hr (by simp) (by simp; omega)).mono ?_
  rintro e w1 ⟨rfl, h1, k1⟩
  go_wp2_with fail
  refine (take_yes p rest h.toNat w1 h1 hn (by omega)).mono ?_
  rintro e w2 ⟨rfl, h2, k2⟩
  rcases ho with ho | ⟨ho1, ho2, ho3⟩
  · go_wp2_with fail
    refine (fail_any p _ w2 h2).mono ?_
    rintro e w3 ⟨rfl, h3, k3⟩
    go_wp2_with fail
    go_ret
    exact ⟨rfl, h3, (k1.trans k2).trans k3⟩
  · obtain ⟨m, hm⟩ : ∃ m, h.toNat = m + 1 := ⟨h.toNat - 1, by omega⟩
    cases rest with
    | nil => simp at ho3
    | cons r rest =>
      simp at ho3
      subst ho3
      have hrt : Hid ((0 :: rest : List UInt8).take h.toNat = 0 :: rest.take m) := by show _ = _; rw [hm]; rfl
      clear hm
      rw [hrt.out]
      go_wp2_with fail
      refine (fail_any p _ w2 h2).mono ?_
      rintro e w3 ⟨rfl, h3, k3⟩
      go_wp2_with fail
      go_ret
      exact ⟨rfl, h3, (k1.trans k2).trans k3⟩

theorem bits_low (V : Nat) (c : UInt8) (h : V < 72057594037927936) : bits .or .u64 (IntKind.u64.wrap ((V : Int) * 256)) (c.toNat : Int) = ((V * 256 + c.toNat : Nat) : Int) := by
  have hc := c.toNat_lt
  have hw : IntKind.u64.wrap ((V : Int) * 256) = ((V * 256 : Nat) : Int) := by
    rw [IntWalk.u64_in _ (by omega)]
    simp
  rw [hw, u64_or_nat _ _ (by omega) (by omega), Nat.or_comm, nat_join8' _ _ (by omega) (by omega)]

theorem val_take (b : List UInt8) (k : Nat) (h : k < b.length) : val (b.take (k + 1)) = val (b.take k) * 256 + b[k].toNat := by
  rw [List.take_succ_eq_append_getElem h, val_snoc]

set_option maxHeartbeats 400000 in
/-- Nought. -/
theorem upto_zero (p : Nat) (hd : UInt8) (rest : List UInt8) (most : Int) (w : World) (hr : Rdr w p ⟨hd :: rest, false⟩) (hl : rest.length < 9223372036854775807) (h0 : hd.toNat = 0) :
    Calls Try.prog 33 #[.pointer (some ⟨p, 0, none⟩), .int .i64 most] w (UptoPost p (uptoFin most 0 rest) w) := by
  have hd0 : hd = 0 := UInt8.toNat_inj.1 (by simpa using h0)
  subst hd0
  clear h0
  by_cases hm : most < 0
  · have hfin : Hid (uptoFin most 0 rest = (0, rfail)) := by show _ = _; simp [uptoFin, hm]
    go_enter Try.func33, Try.ntmps33
    go_wp2_with fail
    refine (take_yes p (0 :: rest) 1 _ hr (by simp) (by simp; omega)).mono ?_
    rintro e w1 ⟨rfl, h1, k1⟩
    go_wp2_with fail
    refine (take_yes p rest 0 w1 h1 (by omega) (by omega)).mono ?_
    rintro e w2 ⟨rfl, h2, k2⟩
    obtain ⟨a, cap, w3, hcv, hrow, hst, ha⟩ := run_row_of_str (P := Try.prog) (w := w2) 9 77 5 [] Try.underlying9 Try.underlying77 Try.underlying5 (by simp)
    have HR := Lib.hid (And.intro (Rdr.step h2 hst (by simp)) (And.intro hst ha))
    clear hrow hst ha h1 h2
    go_wp2_with fail
    refine wp_loop_rounds 1 ?_
    rw [rounds_succ]
    go_wp2_with fail
    refine (fail_any p _ w3 HR.out.1).mono ?_
    rintro e w4 ⟨rfl, h4, k4⟩
    go_wp2_with fail
    go_ret
    rw [hfin.out]
    exact ⟨rfl, h4, (((k1.trans k2).trans (HR.out.2.1.wide (by simp) (by intro k hk; exact .inl hk))).trans k4)⟩
  · have hfin : Hid (uptoFin most 0 rest = (0, ⟨rest, false⟩)) := by show _ = _; simp [uptoFin, hm]
    go_enter Try.func33, Try.ntmps33
    go_wp2_with fail
    refine (take_yes p (0 :: rest) 1 _ hr (by simp) (by simp; omega)).mono ?_
    rintro e w1 ⟨rfl, h1, k1⟩
    go_wp2_with fail
    refine (take_yes p rest 0 w1 h1 (by omega) (by omega)).mono ?_
    rintro e w2 ⟨rfl, h2, k2⟩
    obtain ⟨a, cap, w3, hcv, hrow, hst, ha⟩ := run_row_of_str (P := Try.prog) (w := w2) 9 77 5 [] Try.underlying9 Try.underlying77 Try.underlying5 (by simp)
    have HR := Lib.hid (And.intro (Rdr.step h2 hst (by simp)) (And.intro hst ha))
    clear hrow hst ha h1 h2
    go_wp2_with fail
    refine wp_loop_rounds 1 ?_
    rw [rounds_succ]
    go_wp2_with fail
    go_ret
    rw [hfin.out]
    exact ⟨rfl, HR.out.1, ((k1.trans k2).trans (HR.out.2.1.wide (by simp) (by intro k hk; exact .inl hk)))⟩

set_option maxRecDepth 100000 in
set_option maxHeartbeats 1000000 in
/-- A number that is written as it must be. -/
theorem upto_num (p : Nat) (hd : UInt8) (b tail : List UInt8) (most : Int) (w : World) (hr : Rdr w p ⟨hd :: (b ++ tail), false⟩) (hl : (b ++ tail).length < 9223372036854775807) (hb : b.length = hd.toNat) (h8 : b.length ≤ 8) (hpos : 0 < b.length)
    (hz : (((b[0]'hpos).toNat : Int) == 0) = false) :
    Calls Try.prog 33 #[.pointer (some ⟨p, 0, none⟩), .int .i64 most] w (UptoPost p (uptoFin most (val b) tail) w) := by
  have htake : Hid ((b ++ tail).take hd.toNat = b) := by show _ = _; rw [← hb]; simp
  have hdrop : Hid ((b ++ tail).drop hd.toNat = tail) := by show _ = _; rw [← hb]; simp
  have hn : hd.toNat ≤ (b ++ tail).length := by simp; omega
  have hpos' : 0 < hd.toNat := by omega
  have h8' : hd.toNat ≤ 8 := by omega
  have HB := Lib.hid hb
  clear hb
  go_enter Try.func33, Try.ntmps33
  go_wp2_with fail
  refine (take_yes p (hd :: (b ++ tail)) 1 _ hr (by simp) (by simp at hl ⊢; omega)).mono ?_
  rintro e w1 ⟨rfl, h1, k1⟩
  go_wp2_with fail
  refine (take_yes p (b ++ tail) hd.toNat w1 h1 hn (by omega)).mono ?_
  rw [htake.out, hdrop.out]
  rintro e w2 ⟨rfl, h2, k2⟩
  obtain ⟨a, cap, w3, hcv, hrow, hst, ha⟩ := run_row_of_str (P := Try.prog) (w := w2) 9 77 5 b Try.underlying9 Try.underlying77 Try.underlying5 (by unfold maxLen; omega)
  have HR := Lib.hid (And.intro (Rdr.step h2 hst (by simp)) (And.intro hst (And.intro ha hrow)))
  clear h2 hrow hst ha h1 hr
  go_wp2_with fail
  go_loop [9, 48] (fun n i => ∃ k : Nat, k ≤ b.length ∧ i = .int .i64 k ∧ n = .int .u64 (val (b.take k))) (fun _ i => b.length - (intOf i).toNat)
  case atStart => exact ⟨0, by omega, rfl, rfl⟩
  case round =>
    obtain ⟨k, hk, rfl, rfl⟩ := hrel
    by_cases hlt : k < b.length
    · have c0 := (HR.out.2.2.2.cell rfl k (by omega)).1
      simp only [Nat.zero_add, List.getElem?_map, List.getElem?_eq_getElem hlt, Option.map_some, bv] at c0
      have hv := Lib.hid (val_take b k hlt)
      have hV : Hid (val (b.take k) < 72057594037927936) := by
        have h1 := val_lt (b.take k)
        have h2 : (b.take k).length ≤ 7 := by rw [List.length_take]; omega
        have h3 : 256 ^ (b.take k).length ≤ 256 ^ 7 := Nat.pow_le_pow_right (by omega) h2
        show _ < _
        omega
      go_wp2_with fail
      go_round
      case rel => exact ⟨k + 1, by omega, by go_num, by rw [bits_low _ _ hV.out, hv.out]⟩
      case measure => simp [intOf]; omega
    · obtain rfl : k = b.length := by omega
      have hfull := Lib.hid (List.take_length (l := b))
      rw [hfull.out]
      clear hlt hk
      have hv64 := val_lt b
      have hv64' : (val b : Int) < 18446744073709551616 := by
        have h3 : 256 ^ b.length ≤ 256 ^ 8 := Nat.pow_le_pow_right (by omega) h8
        have : (256 : Nat) ^ 8 = 18446744073709551616 := by decide
        omega
      have HV := Lib.hid hv64'
      clear hv64 hv64'
      by_cases hbig : 4611686018427387903 < val b
      · have hfin : Hid (uptoFin most (val b) tail = (0, rfail)) := by show _ = _; simp [uptoFin, hbig]
        have hbig' : (4611686018427387903 : Int) < (val b : Int) := by omega
        clear hbig
        go_wp2_with fail
        refine (fail_any p _ w3 HR.out.1).mono ?_
        rintro e w4 ⟨rfl, h4, k4⟩
        go_wp2_with fail
        go_ret
        rw [hfin.out]
        exact ⟨rfl, h4, (((k1.trans k2).trans (HR.out.2.1.wide (by simp) (by intro k hk; exact .inl hk))).trans k4)⟩
      · have hbig' : (val b : Int) ≤ 4611686018427387903 := by omega
        by_cases hm : most < (val b : Int)
        · have hfin : Hid (uptoFin most (val b) tail = (0, rfail)) := by show _ = _; simp [uptoFin, hm]
          clear hbig
          go_wp2_with fail
          refine (fail_any p _ w3 HR.out.1).mono ?_
          rintro e w4 ⟨rfl, h4, k4⟩
          go_wp2_with fail
          go_ret
          rw [hfin.out]
          exact ⟨rfl, h4, (((k1.trans k2).trans (HR.out.2.1.wide (by simp) (by intro k hk; exact .inl hk))).trans k4)⟩
        · have hfin : Hid (uptoFin most (val b) tail = ((val b : Int), RS.mk tail false)) := by show _ = _; simp only [uptoFin]; rw [if_neg (by omega)]
          clear hbig
          have hm' : decide (most < (val b : Int)) = false := by simpa using hm
          have hn' : decide ((4611686018427387903 : Int) < (val b : Int)) = false := by simpa using hbig'
          have hw : IntKind.i64.wrap (val b : Int) = (val b : Int) := IntWalk.i64_in _ (by omega)
          clear hm hbig'
          go_wp2_with fail
          go_ret
          rw [hfin.out]
          exact ⟨rfl, HR.out.1, ((k1.trans k2).trans (HR.out.2.1.wide (by simp) (by intro k hk; exact .inl hk)))⟩

/-- Upto, whatever the reader holds. -/
theorem upto_any (p : Nat) (st : RS) (most : Int) (w : World) (h : Rdr w p st) (hs : st.s.length ≤ 9223372036854775807) : Calls Try.prog 33 #[.pointer (some ⟨p, 0, none⟩), .int .i64 most] w (UptoPost p (upto st most) w) := by
  obtain ⟨s, bad⟩ := st
  simp only at hs
  cases bad with
  | true => exact upto_none p _ most w h (.inl rfl)
  | false =>
    cases s with
    | nil => exact upto_none p _ most w h (.inr rfl)
    | cons hd rest =>
      simp at hs
      by_cases c1 : rest.length < hd.toNat
      · have : upto ⟨hd :: rest, false⟩ most = (0, rfail) := by simp [upto, c1]
        rw [this]
        exact upto_short p hd rest most w h (by omega) c1
      · by_cases c2 : 8 < hd.toNat ∨ (0 < hd.toNat ∧ rest.head? = some 0)
        · have : upto ⟨hd :: rest, false⟩ most = (0, rfail) := by simp only [upto]; rw [if_neg (by simp), if_pos (.inr c2)]
          rw [this]
          refine upto_odd p hd rest most w h (by omega) (by omega) ?_
          rcases c2 with c | c
          · exact .inl c
          · by_cases c3 : 8 < hd.toNat
            · exact .inl c3
            · exact .inr ⟨by omega, c⟩
        · have : upto ⟨hd :: rest, false⟩ most = uptoFin most (val (rest.take hd.toNat)) (rest.drop hd.toNat) := by
            simp only [upto]; rw [if_neg (by simp), if_neg (by intro h; rcases h with h | h; exact c1 h; exact c2 h)]
          rw [this]
          by_cases c0 : hd.toNat = 0
          · rw [c0]
            exact upto_zero p hd rest most w h (by omega) c0
          · have hlen : (rest.take hd.toNat).length = hd.toNat := by rw [List.length_take]; omega
            refine upto_num p hd (rest.take hd.toNat) (rest.drop hd.toNat) most w (by rw [List.take_append_drop]; exact h) (by rw [List.take_append_drop]; omega) hlen (by omega) (by omega) ?_
            have : ¬ rest.head? = some 0 := fun e => c2 (.inr ⟨by omega, e⟩)
            simp
            intro e
            apply this
            cases rest with
            | nil => simp at hlen; omega
            | cons r rest => simp; exact UInt8.toNat_inj.1 (by simpa using e)
end Go.Proofs.Ytjfaplmojpldhaa
