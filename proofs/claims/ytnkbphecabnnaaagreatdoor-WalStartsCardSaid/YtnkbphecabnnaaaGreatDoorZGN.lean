/-
  Chapter 8 in plain words: a snapshot's name, its bytes, what is read of a file; Save, Load, Clean on a disk's state. No program in sight.
-/
import Derived.Test.YtnkbphecabnnaaaGreatDoorZGA
import Derived.Test.YtnkbphecabnnaaaGreatDoorZCrcPlain
import Derived.Test.YtnkbphecabnnaaaGreatDoorZGF
import Derived.Test.YtnkbphecabnnaaaGreatDoorZGB
import Derived.Test.YtnkbphecabnnaaaGreatDoorZShShelf
import Derived.Test.YtnkbphecabnnaaaGreatDoorZGM
import Derived.Laws.RangeAny
import Derived.Lib.AppendIntMem
namespace Go.Proofs.YtnkbphecabnnaaaGreatDoor
open Go.RowKit Go.Maps
set_option linter.unusedSimpArgs false
set_option linter.unusedVariables false

structure Sn where
  i : Int
  t : Int
  dt : List UInt8
deriving DecidableEq
def sn0 : Sn := ⟨0, 0, []⟩
/-- The last k digits of a number. -/
def digs : Nat → Nat → List UInt8
  | 0, _ => []
  | k + 1, n => digs k (n / 10) ++ [UInt8.ofNat (48 + n % 10)]
theorem digs_len (k n : Nat) : (digs k n).length = k := by
  induction k generalizing n with
  | zero => rfl
  | succ k ih => simp [digs, ih]
theorem dig_nat (j : Nat) (h : j < 10) : (UInt8.ofNat (48 + j)).toNat = 48 + j := by simp [UInt8.toNat_ofNat']; omega
theorem digs_range (k n : Nat) : ∀ c ∈ digs k n, 48 ≤ c.toNat ∧ c.toNat ≤ 57 := by
  induction k generalizing n with
  | zero => intro c hc; simp [digs] at hc
  | succ k ih =>
    intro c hc
    rw [digs] at hc
    rcases List.mem_append.1 hc with hc | hc
    · exact ih _ c hc
    · simp only [List.mem_singleton] at hc
      subst hc
      rw [dig_nat _ (by omega)]
      omega
theorem digs_inj (k : Nat) : ∀ a b : Nat, a < 10 ^ k → b < 10 ^ k → digs k a = digs k b → a = b := by
  induction k with
  | zero => intro a b ha hb _; simp at ha hb; omega
  | succ k ih =>
    intro a b ha hb h
    rw [digs, digs] at h
    have h1 := List.append_inj_right' h rfl
    have h2 := List.append_inj_left' h rfl
    have e := ih (a / 10) (b / 10) (by rw [Nat.pow_succ] at ha; omega) (by rw [Nat.pow_succ] at hb; omega) h2
    have e2 : a % 10 = b % 10 := by
      have := congrArg UInt8.toNat (List.cons.inj h1).1
      rw [dig_nat _ (by omega), dig_nat _ (by omega)] at this
      omega
    omega
/-- A snapshot's file. -/
def fileB (n : Nat) : List UInt8 := 115 :: digs 13 n
theorem fileB_inj {a b : Nat} (ha : a ≤ 1099511627776) (hb : b ≤ 1099511627776) (h : fileB a = fileB b) : a = b :=
  digs_inj 13 a b (by omega) (by omega) (List.cons.inj h).2
def namedB (f : List UInt8) : Bool := decide (f.length = 14) && (f.head? == some 115) && f.tail.all fun c => decide (48 ≤ c.toNat) && decide (c.toNat ≤ 57)
structure RSn (s : Sn) : Prop where
  i : 0 ≤ s.i ∧ s.i ≤ 1099511627776
  t : 0 ≤ s.t ∧ s.t ≤ 1099511627776
  dt : s.dt.length ≤ 1048576
def be4 (x : Wd) : List UInt8 := [lob (wshr x 24), lob (wshr x 16), lob (wshr x 8), lob x]
theorem be4_len (x : Wd) : (be4 x).length = 4 := rfl
def bodyB (s : Sn) : List UInt8 := numB s.i.toNat ++ (numB s.t.toNat ++ (numB s.dt.length ++ s.dt))
def textB (s : Sn) : List UInt8 := be4 (crcL (bodyB s)) ++ bodyB s
theorem body_len {s : Sn} (h : RSn s) : (bodyB s).length ≤ 1048603 := by
  have h1 := numB_len s.i.toNat (by have := h.i; omega)
  have h2 := numB_len s.t.toNat (by have := h.t; omega)
  have h3 := numB_len s.dt.length (by have := h.dt; omega)
  have := h.dt
  simp only [bodyB, List.length_append]
  omega
theorem text_len {s : Sn} (h : RSn s) : (textB s).length ≤ 1048607 ∧ 4 < (textB s).length := by
  have := body_len h
  simp only [textB, List.length_append, be4_len]
  refine ⟨by omega, ?_⟩
  simp only [bodyB, List.length_append, numB, List.length_cons]
  omega
end Go.Proofs.YtnkbphecabnnaaaGreatDoor
namespace Go.Proofs.YtnkbphecabnnaaaGreatDoor
open Go.RowKit
set_option linter.unusedSimpArgs false
set_option linter.unusedVariables false
set_option maxRecDepth 100000

theorem low_and (s : Wd) : wand s 1#32 = if crcLow s then 1#32 else 0#32 := by
  apply BitVec.eq_of_getLsbD_eq
  intro i hi
  unfold wand crcLow
  rw [BitVec.getLsbD_and]
  cases i with
  | zero => cases s.getLsbD 0 <;> simp
  | succ j =>
    have : (1#32).getLsbD (j + 1) = false := by
      simp [BitVec.getLsbD_one]
    rw [this]
    split <;> simp
theorem run_low (s : Wd) : bits .and .u32 (s.toNat : Int) 1 = if crcLow s then 1 else 0 := by
  rw [show (1 : Int) = ((1#32).toNat : Int) from rfl, wd_and, low_and]
  split <;> rfl
theorem run_poly (s : Wd) : bits .xor .u32 (s.toNat : Int) 3988292384 = ((wxor s crcPoly).toNat : Int) := wd_xor s crcPoly
theorem run_shr1 (s : Wd) : (s.toNat : Int) / 2 = ((wshr s 1).toNat : Int) := wd_shr s 1

set_option maxHeartbeats 2000000 in
theorem more_any (s : Wd) (a : Option Addr) (n cap : Nat) (l : List UInt8) (w : World) (hr : Rd w 1 a n (l.map bv)) (hn : n = l.length) (hb : n ≤ 1099511627776) :
    Calls Tryz.prog 71 #[wv s, .slice a n cap] w fun e w' => e = .returned (wv (wnot (crcFrom (wnot s) l))) ∧ w = w' := by
  have H := Lib.hid (And.intro hr hn)
  clear hr hn
  go_enter Tryz.func71, Tryz.ntmps71
  go_wp2_with fail
  go_loopw [0, 12] (fun v i wr => wr = w ∧ ∃ k : Nat, k ≤ n ∧ i = .int .i64 k ∧ v = wv (crcFrom (wnot s) (l.take k)))
    (fun _ i _ => n - (intOf i).toNat)
  case atStart => exact ⟨rfl, 0, by omega, rfl, rfl⟩
  case round =>
    obtain ⟨rfl, k, hk, rfl, rfl⟩ := hrel
    by_cases hlt : k < n
    · have hlt' : (k : Int) < n := by omega
      obtain ⟨c, hc⟩ : ∃ c, l[k]? = some c := ⟨_, List.getElem?_eq_getElem (by rw [← H.out.2]; exact hlt)⟩
      obtain ⟨g, off, rfl⟩ := H.out.1.some_ (by omega)
      have cx : wr.cell? ⟨g, off + k, none⟩ = some (.int .u8 (c.toNat : Int)) := H.out.1.cell g off none rfl k (bv c) (by simp [hc])
      go_wp2_with fail
      obtain ⟨s1, hs1⟩ : ∃ s1, s1 = wxor (crcFrom (wnot s) (l.take k)) (wb c) := ⟨_, rfl⟩
      rw [← hs1]
      have HS := Lib.hid hs1
      clear hs1
      go_loopw [0, 20] (fun v i w2 => w2 = wr ∧ ∃ j : Nat, j ≤ 8 ∧ i = .int .i64 j ∧ v = wv (crcIter j s1))
        (fun _ i _ => 8 - (intOf i).toNat)
      case atStart => exact ⟨rfl, 0, by omega, rfl, rfl⟩
      case round =>
        obtain ⟨rfl, j, hj, rfl, rfl⟩ := hrel
        by_cases hj8 : j < 8
        · have hj8' : (j : Int) < 8 := by omega
          by_cases hb : crcLow (crcIter j s1) = true
          · have r1 := run_low (crcIter j s1)
            rw [if_pos hb] at r1
            have r2 := run_poly (wshr (crcIter j s1) 1)
            have r3 := run_shr1 (crcIter j s1)
            go_wp2_with fail
            have es : wxor (wshr (crcIter j s1) 1) crcPoly = crcIter (j + 1) s1 := by rw [crcIter_succ, crcStep, if_pos hb]
            go_roundw
            case rel => exact ⟨trivial, j + 1, by omega, by go_num, by rw [es]⟩
            case measure => simp [intOf]; omega
          · have r1 := run_low (crcIter j s1)
            rw [if_neg hb] at r1
            have r3 := run_shr1 (crcIter j s1)
            go_wp2_with fail
            have es : wshr (crcIter j s1) 1 = crcIter (j + 1) s1 := by rw [crcIter_succ, crcStep, if_neg hb]
            go_roundw
            case rel => exact ⟨trivial, j + 1, by omega, by go_num, by rw [es]⟩
            case measure => simp [intOf]; omega
        · have hj8' : ¬ (j : Int) < 8 := by omega
          go_wp2_with fail
          have ej : j = 8 := by omega
          have es : crcIter j s1 = crcFrom (wnot s) (l.take (k + 1)) := by
            rw [ej, HS.out, List.take_add_one, hc]
            unfold crcFrom
            rw [List.foldl_append]
            rfl
          go_roundw
          case rel => exact ⟨trivial, k + 1, by omega, by go_num, by rw [es]⟩
          case measure => simp [intOf]; omega
    · have hlt' : ¬ (k : Int) < n := by omega
      go_wp2_with fail
      refine bodyPost_ret (results_tmp rfl _ _ _) rfl ⟨?_, rfl⟩
      have e : l.take k = l := List.take_of_length_le (by have := H.out.2; omega)
      rw [e]
      rfl
set_option maxHeartbeats 1000000 in
theorem of_any (a : Option Addr) (n cap : Nat) (l : List UInt8) (w : World) (hr : Rd w 1 a n (l.map bv)) (hn : n = l.length) (hb : n ≤ 1099511627776) :
    Calls Tryz.prog 52 #[.slice a n cap] w fun e w' => e = .returned (wv (crcL l)) ∧ w = w' := by
  have H := Lib.hid (And.intro hr hn)
  clear hr hn
  go_enter Tryz.func52, Tryz.ntmps52
  go_wp2_with fail
  refine (more_any 0#32 a n cap l _ H.out.1 H.out.2 hb).mono ?_
  rintro e w' ⟨rfl, rfl⟩
  go_wp2_with fail
  exact bodyPost_ret (results_tmp rfl _ _ _) rfl ⟨rfl, rfl⟩
end Go.Proofs.YtnkbphecabnnaaaGreatDoor
namespace Go.Proofs.YtnkbphecabnnaaaGreatDoor
open Go.RowKit Go.Lib
set_option linter.unusedSimpArgs false
set_option linter.unusedVariables false
set_option maxRecDepth 100000

theorem It8.low {w : World} {b k : Nat} {s : List UInt8} (h : It8 w b s k) (hk : k < s.length) (ha : s[k].toNat < 128) (P : Program) (ty : TypeId) :
    (Instr.next (.pointer (some ⟨b, 0, none⟩)) true ty).run P w = .ok (.tuple #[.bool true, .int .i64 k, .int .i32 (s[k].toNat : Int)]) (w.iterAt b ⟨s.toArray⟩ (k + 1)) := by
  have h1 : k < (ByteArray.mk s.toArray).size := by simpa [ByteArray.size] using hk
  exact run_next_ascii_at (P := P) w b ⟨s.toArray⟩ k ty h h1 ha
theorem It8.high {w : World} {b k : Nat} {s : List UInt8} (h : It8 w b s k) (hk : k < s.length) (ha : ¬ s[k].toNat < 128) : ∃ c m : Nat, 128 ≤ c ∧ ∀ (P : Program) (ty : TypeId),
    (Instr.next (.pointer (some ⟨b, 0, none⟩)) true ty).run P w = .ok (.tuple #[.bool true, .int .i64 k, .int .i32 (c : Int)]) (w.iterAt b ⟨s.toArray⟩ (k + m)) := by
  have h1 : k < (ByteArray.mk s.toArray).size := by simpa [ByteArray.size] using hk
  have h2 := (Go.decode_high ⟨s.toArray⟩ k h1 (Nat.le_of_not_lt ha)).1
  exact ⟨(Utf8.decode ⟨s.toArray⟩ k).1, (Utf8.decode ⟨s.toArray⟩ k).2, h2, fun P ty => run_next_any_at (P := P) w b ⟨s.toArray⟩ k ty h h1⟩
/-- What the library reads of its variables. -/
def PTab (w : World) : Prop := Lib.TabIs Tryz.prog w "internal/strconv.uint64pow10" .u64 Lib.pow10Tab
theorem PTab.step {w w' : World} {S : List Nat} (h : PTab w) (k : Step [] S w w') : PTab w' := Lib.tabBelow_of_tabIs h w' k.below0
theorem sgrow_step (w : World) (k : Nat) (os : Array Obj) : Step [] [] w (Go.Sort.grow (w.drewN k) os) :=
  ⟨rfl, rfl, rfl, by simp [Go.Sort.grow, World.drewN], fun g hg _ => by simp only [Go.Sort.grow]; rw [Array.getElem?_append_left (by simpa [World.drewN] using hg)]; rfl, by simp⟩
/-- A number's digits. -/
def decS (n : Nat) : List UInt8 := Lib.decDigits n
theorem sitoa_any (n : Nat) (hn : n ≤ 1099511627776) (w : World) (hT : PTab w) : Calls Tryz.prog 44 #[.int .i64 n] w fun e w' => e = .returned (Str (decS n)) ∧ Step [] [] w w' := by
  refine (Tryz.sh_strconv_Itoa n (by omega) (by omega) w hT).mono ?_
  rintro e w' ⟨rfl, k, os, rfl⟩
  have e : Lib.itoa (n : Int) = decS n := by
    unfold Lib.itoa decS
    rw [if_neg (by omega), Int.toNat_natCast]
  rw [e]
  exact ⟨rfl, sgrow_step _ _ _⟩
theorem decS_digs : ∀ (k n : Nat), n < 10 ^ (k + 1) → (decS n).length ≤ k + 1 ∧ digs (k + 1) n = List.replicate (k + 1 - (decS n).length) 48 ++ decS n := by
  intro k
  induction k with
  | zero =>
    intro n hn
    have h1 : n < 10 := by simpa using hn
    unfold decS
    rw [Lib.decDigits, dif_pos h1]
    refine ⟨by simp, ?_⟩
    simp [digs, Nat.mod_eq_of_lt h1]
  | succ k ih =>
    intro n hn
    by_cases h1 : n < 10
    · unfold decS
      rw [Lib.decDigits, dif_pos h1]
      refine ⟨by simp, ?_⟩
      have h2 := (ih (n / 10) (by rw [Nat.pow_succ] at hn; omega))
      have h0 : n / 10 = 0 := by omega
      rw [h0] at h2
      have h3 : decS 0 = [48] := by unfold decS; rw [Lib.decDigits, dif_pos (by omega)]; rfl
      rw [h3] at h2
      rw [digs, h0, h2.2, Nat.mod_eq_of_lt h1]
      simp [List.replicate_succ']
    · have h2 := (ih (n / 10) (by rw [Nat.pow_succ] at hn; omega))
      have h3 : decS n = decS (n / 10) ++ [UInt8.ofNat (48 + n % 10)] := by
        unfold decS
        rw [Lib.decDigits, dif_neg h1]
        first | done | rfl | simp
      rw [h3, List.length_append, List.length_singleton]
      refine ⟨by omega, ?_⟩
      rw [digs, h2.2, show k + 1 + 1 - ((decS (n / 10)).length + 1) = k + 1 - (decS (n / 10)).length by omega, List.append_assoc]
theorem rep_one (c : UInt8) (m : Nat) : Lib.repeatL [c] m = List.replicate m c := by
  induction m with
  | zero => rfl
  | succ k ih => rw [Lib.repeatL, ih]; rfl
theorem str3 (a b c : List UInt8) : ((⟨a.toArray⟩ : ByteArray) ++ ⟨b.toArray⟩ ++ ⟨c.toArray⟩) = ⟨(a ++ (b ++ c)).toArray⟩ := by
  apply ByteArray.ext
  simp [ByteArray.append_eq, ByteArray.data_append]
def snc (s : Sn) : List Value := [.int .i64 s.i, .int .i64 s.t, Str s.dt]
end Go.Proofs.YtnkbphecabnnaaaGreatDoor
namespace Go.Proofs.YtnkbphecabnnaaaGreatDoor
open Go.RowKit
set_option linter.unusedSimpArgs false
set_option linter.unusedVariables false
set_option maxRecDepth 100000

section
variable {w0 w w' : World} {b : Nat} {s : Sn} {S S' : List Nat} {st st' : WS}
end
end Go.Proofs.YtnkbphecabnnaaaGreatDoor
