/-
  Chapter 8 in plain words: a snapshot's name, its bytes, what is read of a file; Save, Load, Clean on a disk's state. No program in sight.
-/
import Derived.Test.YtjdgdmlhipbaaaaGreatDoorZGA
import Derived.Test.YtjdgdmlhipbaaaaGreatDoorZCrcPlain
import Derived.Test.YtjdgdmlhipbaaaaGreatDoorZGF
import Derived.Test.YtjdgdmlhipbaaaaGreatDoorZGB
import Derived.Test.YtjdgdmlhipbaaaaGreatDoorZShShelf
import Derived.Test.YtjdgdmlhipbaaaaGreatDoorZGM
import Derived.Laws.RangeAny
import Derived.Lib.AppendIntMem
namespace Go.Proofs.YtjdgdmlhipbaaaaGreatDoor
open Go.RowKit Go.Maps
set_option linter.unusedSimpArgs false
set_option linter.unusedVariables false

structure Sn where
  i : Int
  t : Int
  dt : List UInt8
deriving DecidableEq
def sn0 : Sn := ⟨0, 0, []⟩
/-- The last k digits of a number. -/
def digs : Nat → Nat → List UInt8
  | 0, _ => []
  | k + 1, n => digs k (n / 10) ++ [UInt8.ofNat (48 + n % 10)]
theorem digs_len (k n : Nat) : (digs k n).length = k := by
  induction k generalizing n with
  | zero => rfl
  | succ k ih => simp [digs, ih]
theorem dig_nat (j : Nat) (h : j < 10) : (UInt8.ofNat (48 + j)).toNat = 48 + j := by simp [UInt8.toNat_ofNat']; omega
theorem digs_range (k n : Nat) : ∀ c ∈ digs k n, 48 ≤ c.toNat ∧ c.toNat ≤ 57 := by
  induction k generalizing n with
  | zero => intro c hc; simp [digs] at hc
  | succ k ih =>
    intro c hc
    rw [digs] at hc
    rcases List.mem_append.1 hc with hc | hc
    · exact ih _ c hc
    · simp only [List.mem_singleton] at hc
      subst hc
      rw [dig_nat _ (by omega)]
      omega
/-- A snapshot's file. -/
def fileB (n : Nat) : List UInt8 := 115 :: digs 13 n
theorem fileB_len (n : Nat) : (fileB n).length = 14 := by simp [fileB, digs_len]
def namedB (f : List UInt8) : Bool := decide (f.length = 14) && (f.head? == some 115) && f.tail.all fun c => decide (48 ≤ c.toNat) && decide (c.toNat ≤ 57)
theorem fileB_named (n : Nat) : namedB (fileB n) = true := by
  unfold namedB
  rw [fileB_len]
  simp only [fileB, decide_true, Bool.true_and, List.head?_cons, beq_self_eq_true, List.tail_cons, List.all_eq_true, Bool.and_eq_true, decide_eq_true_eq]
  exact fun c hc => digs_range 13 n c hc
def rightSn (s : Sn) : Bool := decide (0 ≤ s.i) && decide (s.i ≤ 1099511627776) && decide (0 ≤ s.t) && decide (s.t ≤ 1099511627776) && decide (s.dt.length ≤ 1048576)
structure RSn (s : Sn) : Prop where
  i : 0 ≤ s.i ∧ s.i ≤ 1099511627776
  t : 0 ≤ s.t ∧ s.t ≤ 1099511627776
  dt : s.dt.length ≤ 1048576
theorem rightSn_iff {s : Sn} : rightSn s = true ↔ RSn s := by
  unfold rightSn
  simp only [Bool.and_eq_true, decide_eq_true_eq]
  exact ⟨fun ⟨⟨⟨⟨a, b⟩, c⟩, d⟩, e⟩ => ⟨⟨a, b⟩, ⟨c, d⟩, e⟩, fun h => ⟨⟨⟨⟨h.i.1, h.i.2⟩, h.t.1⟩, h.t.2⟩, h.dt⟩⟩
def be4 (x : Wd) : List UInt8 := [lob (wshr x 24), lob (wshr x 16), lob (wshr x 8), lob x]
theorem be4_len (x : Wd) : (be4 x).length = 4 := rfl
def bodyB (s : Sn) : List UInt8 := numB s.i.toNat ++ (numB s.t.toNat ++ (numB s.dt.length ++ s.dt))
def textB (s : Sn) : List UInt8 := be4 (crcL (bodyB s)) ++ bodyB s
theorem body_len {s : Sn} (h : RSn s) : (bodyB s).length ≤ 1048603 := by
  have h1 := numB_len s.i.toNat (by have := h.i; omega)
  have h2 := numB_len s.t.toNat (by have := h.t; omega)
  have h3 := numB_len s.dt.length (by have := h.dt; omega)
  have := h.dt
  simp only [bodyB, List.length_append]
  omega
theorem text_len {s : Sn} (h : RSn s) : (textB s).length ≤ 1048607 ∧ 4 < (textB s).length := by
  have := body_len h
  simp only [textB, List.length_append, be4_len]
  refine ⟨by omega, ?_⟩
  simp only [bodyB, List.length_append, numB, List.length_cons]
  omega
/-- What is read of bytes. -/
def partsB (b : List UInt8) : Sn × RS :=
  let r1 := rnum ⟨b, false⟩
  let r2 := rnum r1.2
  let r3 := rtext r2.2 1048576
  (⟨r1.1, r2.1, r3.1⟩, r3.2)
def wholeB (f t : List UInt8) : Option Sn :=
  if t.length < 4 then none
  else if rend (partsB (t.drop 4)).2 = 0 ∧ rightSn (partsB (t.drop 4)).1 = true ∧ fileB (partsB (t.drop 4)).1.i.toNat = f ∧ textB (partsB (t.drop 4)).1 = t then some (partsB (t.drop 4)).1 else none
theorem whole_some {f t : List UInt8} {s : Sn} (h : wholeB f t = some s) : RSn s ∧ f = fileB s.i.toNat ∧ t = textB s := by
  unfold wholeB at h
  split at h
  · cases h
  · split at h
    · rename_i hc
      injection h with h
      subst h
      exact ⟨rightSn_iff.1 hc.2.1, hc.2.2.1.symm, hc.2.2.2.symm⟩
    · cases h
end Go.Proofs.YtjdgdmlhipbaaaaGreatDoor
namespace Go.Proofs.YtjdgdmlhipbaaaaGreatDoor
open Go.RowKit
set_option linter.unusedSimpArgs false
set_option linter.unusedVariables false
set_option maxRecDepth 100000

theorem low_and (s : Wd) : wand s 1#32 = if crcLow s then 1#32 else 0#32 := by
  apply BitVec.eq_of_getLsbD_eq
  intro i hi
  unfold wand crcLow
  rw [BitVec.getLsbD_and]
  cases i with
  | zero => cases s.getLsbD 0 <;> simp
  | succ j =>
    have : (1#32).getLsbD (j + 1) = false := by
      simp [BitVec.getLsbD_one]
    rw [this]
    split <;> simp
theorem run_low (s : Wd) : bits .and .u32 (s.toNat : Int) 1 = if crcLow s then 1 else 0 := by
  rw [show (1 : Int) = ((1#32).toNat : Int) from rfl, wd_and, low_and]
  split <;> rfl
theorem run_poly (s : Wd) : bits .xor .u32 (s.toNat : Int) 3988292384 = ((wxor s crcPoly).toNat : Int) := wd_xor s crcPoly
theorem run_shr1 (s : Wd) : (s.toNat : Int) / 2 = ((wshr s 1).toNat : Int) := wd_shr s 1

set_option maxHeartbeats 2000000 in
theorem more_any (s : Wd) (a : Option Addr) (n cap : Nat) (l : List UInt8) (w : World) (hr : Rd w 1 a n (l.map bv)) (hn : n = l.length) (hb : n ≤ 1099511627776) :
    Calls Tryz.prog 84 #[wv s, .slice a n cap] w fun e w' => e = .returned (wv (wnot (crcFrom (wnot s) l))) ∧ w = w' := by
  have H := Lib.hid (And.intro hr hn)
  clear hr hn
  go_enter Tryz.func84, Tryz.ntmps84
  go_wp2_with fail
  go_loopw [0, 12] (fun v i wr => wr = w ∧ ∃ k : Nat, k ≤ n ∧ i = .int .i64 k ∧ v = wv (crcFrom (wnot s) (l.take k)))
    (fun _ i _ => n - (intOf i).toNat)
  case atStart => exact ⟨rfl, 0, by omega, rfl, rfl⟩
  case round =>
    obtain ⟨rfl, k, hk, rfl, rfl⟩ := hrel
    by_cases hlt : k < n
    · have hlt' : (k : Int) < n := by omega
      obtain ⟨c, hc⟩ : ∃ c, l[k]? = some c := ⟨_, List.getElem?_eq_getElem (by rw [← H.out.2]; exact hlt)⟩
      obtain ⟨g, off, rfl⟩ := H.out.1.some_ (by omega)
      have cx : wr.cell? ⟨g, off + k, none⟩ = some (.int .u8 (c.toNat : Int)) := H.out.1.cell g off none rfl k (bv c) (by simp [hc])
      go_wp2_with fail
      obtain ⟨s1, hs1⟩ : ∃ s1, s1 = wxor (crcFrom (wnot s) (l.take k)) (wb c) := ⟨_, rfl⟩
      rw [← hs1]
      have HS := Lib.hid hs1
      clear hs1
      go_loopw [0, 20] (fun v i w2 => w2 = wr ∧ ∃ j : Nat, j ≤ 8 ∧ i = .int .i64 j ∧ v = wv (crcIter j s1))
        (fun _ i _ => 8 - (intOf i).toNat)
      case atStart => exact ⟨rfl, 0, by omega, rfl, rfl⟩
      case round =>
        obtain ⟨rfl, j, hj, rfl, rfl⟩ := hrel
        by_cases hj8 : j < 8
        · have hj8' : (j : Int) < 8 := by omega
          by_cases hb : crcLow (crcIter j s1) = true
          · have r1 := run_low (crcIter j s1)
            rw [if_pos hb] at r1
            have r2 := run_poly (wshr (crcIter j s1) 1)
            have r3 := run_shr1 (crcIter j s1)
            go_wp2_with fail
            have es : wxor (wshr (crcIter j s1) 1) crcPoly = crcIter (j + 1) s1 := by rw [crcIter_succ, crcStep, if_pos hb]
            go_roundw
            case rel => exact ⟨trivial, j + 1, by omega, by go_num, by rw [es]⟩
            case measure => simp [intOf]; omega
          · have r1 := run_low (crcIter j s1)
            rw [if_neg hb] at r1
            have r3 := run_shr1 (crcIter j s1)
            go_wp2_with fail
            have es : wshr (crcIter j s1) 1 = crcIter (j + 1) s1 := by rw [crcIter_succ, crcStep, if_neg hb]
            go_roundw
            case rel => exact ⟨trivial, j + 1, by omega, by go_num, by rw [es]⟩
            case measure => simp [intOf]; omega
        · have hj8' : ¬ (j : Int) < 8 := by omega
          go_wp2_with fail
          have ej : j = 8 := by omega
          have es : crcIter j s1 = crcFrom (wnot s) (l.take (k + 1)) := by
            rw [ej, HS.out, List.take_add_one, hc]
            unfold crcFrom
            rw [List.foldl_append]
            rfl
          go_roundw
          case rel => exact ⟨trivial, k + 1, by omega, by go_num, by rw [es]⟩
          case measure => simp [intOf]; omega
    · have hlt' : ¬ (k : Int) < n := by omega
      go_wp2_with fail
      refine bodyPost_ret (results_tmp rfl _ _ _) rfl ⟨?_, rfl⟩
      have e : l.take k = l := List.take_of_length_le (by have := H.out.2; omega)
      rw [e]
      rfl
set_option maxHeartbeats 1000000 in
theorem of_any (a : Option Addr) (n cap : Nat) (l : List UInt8) (w : World) (hr : Rd w 1 a n (l.map bv)) (hn : n = l.length) (hb : n ≤ 1099511627776) :
    Calls Tryz.prog 60 #[.slice a n cap] w fun e w' => e = .returned (wv (crcL l)) ∧ w = w' := by
  have H := Lib.hid (And.intro hr hn)
  clear hr hn
  go_enter Tryz.func60, Tryz.ntmps60
  go_wp2_with fail
  refine (more_any 0#32 a n cap l _ H.out.1 H.out.2 hb).mono ?_
  rintro e w' ⟨rfl, rfl⟩
  go_wp2_with fail
  exact bodyPost_ret (results_tmp rfl _ _ _) rfl ⟨rfl, rfl⟩
end Go.Proofs.YtjdgdmlhipbaaaaGreatDoor
namespace Go.Proofs.YtjdgdmlhipbaaaaGreatDoor
open Go.RowKit Go.Lib
set_option linter.unusedSimpArgs false
set_option linter.unusedVariables false
set_option maxRecDepth 100000

def digB (c : UInt8) : Bool := decide (48 ≤ c.toNat) && decide (c.toNat ≤ 57)
theorem It8.low {w : World} {b k : Nat} {s : List UInt8} (h : It8 w b s k) (hk : k < s.length) (ha : s[k].toNat < 128) (P : Program) (ty : TypeId) :
  (Instr.next (.pointer (some ⟨b, 0, none⟩)) true ty).run P w = .ok (.tuple #[.bool true, .int .i64 k, .int .i32 (s[k].toNat : Int)]) (w.iterAt b ⟨s.toArray⟩ (k + 1)) := by
 have h1 : k < (ByteArray.mk s.toArray).size := by simpa [ByteArray.size] using hk
 exact run_next_ascii_at (P := P) w b ⟨s.toArray⟩ k ty h h1 ha
theorem It8.high {w : World} {b k : Nat} {s : List UInt8} (h : It8 w b s k) (hk : k < s.length) (ha : ¬ s[k].toNat < 128) : ∃ c m : Nat, 128 ≤ c ∧ ∀ (P : Program) (ty : TypeId),
  (Instr.next (.pointer (some ⟨b, 0, none⟩)) true ty).run P w = .ok (.tuple #[.bool true, .int .i64 k, .int .i32 (c : Int)]) (w.iterAt b ⟨s.toArray⟩ (k + m)) := by
 have h1 : k < (ByteArray.mk s.toArray).size := by simpa [ByteArray.size] using hk
 have h2 := (Go.decode_high ⟨s.toArray⟩ k h1 (Nat.le_of_not_lt ha)).1
 exact ⟨(Utf8.decode ⟨s.toArray⟩ k).1, (Utf8.decode ⟨s.toArray⟩ k).2, h2, fun P ty => run_next_any_at (P := P) w b ⟨s.toArray⟩ k ty h h1⟩
set_option maxHeartbeats 4000000 in
theorem named_any (f : List UInt8) (w : World) : Calls Tryz.prog 38 #[Str f] w fun e w' => e = .returned (.bool (namedB f)) ∧ Step [] [] w w' := by
 go_enter Tryz.func38, Tryz.ntmps38
 by_cases h14 : f.length = 14
 ·have hd : decide ((f.length : Int) = 14) = true := decide_eq_true (by omega)
  obtain ⟨c0, r, rfl⟩ : ∃ c r, f = c :: r := by cases f with | nil => simp at h14 | cons c r => exact ⟨c, r, rfl⟩
  have h13 : r.length = 13 := by simpa using h14
  by_cases hc : c0.toNat = 115
  ·have hcd : decide ((c0.toNat : Int) = 115) = true := decide_eq_true (by omega)
   have hF : Hid (namedB (c0 :: r) = r.all digB) := Lib.hid (by
    unfold namedB digB
    rw [decide_eq_true h14, show c0 = 115 from UInt8.toNat.inj hc]
    rfl)
   go_wp2_with fail
   rw [show r.take 13 = r from List.take_of_length_le (by omega)]
   have H13 := Lib.hid h13
   clear hd hcd hc h14 h13
   obtain ⟨b, hb⟩ : ∃ b, b = w.heap.size := ⟨_, rfl⟩
   obtain ⟨W, hW⟩ : ∃ W, W = w.iter ⟨r.toArray⟩ 0 := ⟨_, rfl⟩
   rw [← hb, ← hW]
   have H0 : Hid (It8 W b r 0 ∧ Step [] [] w W ∧ w.heap.size ≤ b) := by subst hb hW; exact ⟨World.iter_heap w _ 0, (Step.refl [] w).alloc _, Nat.le_refl _⟩
   clear hb hW
   go_loopw [4] (fun _ wr => ∃ k : Nat, k ≤ 13 ∧ Hid (It8 wr b r k ∧ (r.take k).all digB = true ∧ Step [] [] w wr))
    (fun _ wr => 13 - wr.iterPos b)
   case atStart => exact ⟨0, by omega, H0.out.1, rfl, H0.out.2.1⟩
   case round =>
    obtain ⟨k, hk, HW⟩ := hrel
    have hpos0 := HW.out.1.pos
    by_cases hlt : k < 13
    ·have hlr : k < r.length := by rw [H13.out]; exact hlt
     by_cases ha : r[k].toNat < 128
     ·have hnx := fun ty => HW.out.1.low hlr ha Tryz.prog ty
      obtain ⟨W1, hW1⟩ : ∃ W1, W1 = wr.iterAt b ⟨r.toArray⟩ (k + 1) := ⟨_, rfl⟩
      have HX : Hid (It8 W1 b r (k + 1) ∧ Step [] [] w W1) := by subst hW1; exact ⟨HW.out.1.moved _, HW.out.2.2.iterAt (.inr H0.out.2.2) _ _⟩
      rw [← hW1] at hnx
      clear hW1
      by_cases hg : digB r[k] = true
      ·have hg' := hg
       unfold digB at hg'
       simp only [Bool.and_eq_true, decide_eq_true_eq] at hg'
       have z1 : decide ((r[k].toNat : Int) < 48) = false := decide_eq_false (by omega)
       have z2 : decide ((57 : Int) < (r[k].toNat : Int)) = false := decide_eq_false (by omega)
       have HN : Hid ((r.take (k + 1)).all digB = true) := Lib.hid (by rw [List.take_add_one, List.all_append, HW.out.2.1, List.getElem?_eq_getElem hlr]; simp [hg])
       generalize r[k].toNat = cn at *
       go_wp2_with fail
       have hpos1 := HX.out.1.pos
       go_roundw
       case rel => exact ⟨k + 1, by omega, Lib.hid ⟨HX.out.1, HN.out, HX.out.2⟩⟩
       case measure => omega
      ·have HN : Hid (r.all digB = false) := Lib.hid (by
        rw [List.all_eq_false]
        exact ⟨r[k], List.getElem_mem hlr, hg⟩)
       unfold digB at hg
       simp only [Bool.and_eq_true, decide_eq_true_eq] at hg
       generalize r[k].toNat = cn at *
       by_cases h48 : cn < 48
       ·have z1 : decide ((cn : Int) < 48) = true := decide_eq_true (by omega)
        clear hg h48
        go_wp2_with fail
        exact bodyPost_ret (results_tmp rfl _ _ _) rfl ⟨by rw [hF.out, HN.out]; rfl, HX.out.2⟩
       ·have z1 : decide ((cn : Int) < 48) = false := decide_eq_false (by omega)
        have z2 : decide ((57 : Int) < (cn : Int)) = true := decide_eq_true (by omega)
        clear hg h48
        go_wp2_with fail
        exact bodyPost_ret (results_tmp rfl _ _ _) rfl ⟨by rw [hF.out, HN.out]; rfl, HX.out.2⟩
     ·obtain ⟨cn, m, hcn, hnx0⟩ := HW.out.1.high hlr ha
      have hnx := fun ty => hnx0 Tryz.prog ty
      clear hnx0
      obtain ⟨W1, hW1⟩ : ∃ W1, W1 = wr.iterAt b ⟨r.toArray⟩ (k + m) := ⟨_, rfl⟩
      have HX : Hid (Step [] [] w W1) := by subst hW1; exact HW.out.2.2.iterAt (.inr H0.out.2.2) _ _
      rw [← hW1] at hnx
      clear hW1
      have HN : Hid (r.all digB = false) := Lib.hid (by
       rw [List.all_eq_false]
       refine ⟨r[k], List.getElem_mem hlr, ?_⟩
       unfold digB
       rw [decide_eq_false (show ¬ r[k].toNat ≤ 57 by omega)]
       simp)
      have z1 : decide ((cn : Int) < 48) = false := decide_eq_false (by omega)
      have z2 : decide ((57 : Int) < (cn : Int)) = true := decide_eq_true (by omega)
      clear ha hcn
      go_wp2_with fail
      exact bodyPost_ret (results_tmp rfl _ _ _) rfl ⟨by rw [hF.out, HN.out]; rfl, HX.out⟩
    ·have hlr : ¬ k < r.length := by rw [H13.out]; exact hlt
     have hnx := fun ty => HW.out.1.stop hlr Tryz.prog ty
     have HN : Hid (r.all digB = true) := Lib.hid (by
      have := HW.out.2.1
      rwa [List.take_of_length_le (by omega)] at this)
     go_wp2_with fail
     exact bodyPost_ret (results_tmp rfl _ _ _) rfl ⟨by rw [hF.out, HN.out]; rfl, HW.out.2.2⟩
  ·have hcd : decide ((c0.toNat : Int) = 115) = false := decide_eq_false (by omega)
   have hF : Hid (namedB (c0 :: r) = false) := Lib.hid (by
    have : ¬ c0 = 115 := fun e => hc (by rw [e]; rfl)
    unfold namedB
    simp [this])
   have hcd' : ((c0.toNat : Int) != 115) = true := by simp; omega
   go_wp2_with fail
   exact bodyPost_ret (results_tmp rfl _ _ _) rfl ⟨by rw [hF.out]; rfl, Step.refl _ _⟩
 ·have hd : decide ((f.length : Int) = 14) = false := decide_eq_false (by omega)
  go_wp2_with fail
  refine bodyPost_ret (results_tmp rfl _ _ _) rfl ⟨?_, Step.refl _ _⟩
  unfold namedB
  rw [decide_eq_false h14]
  rfl

/-- What the library reads of its variables. -/
def PTab (w : World) : Prop := Lib.TabIs Tryz.prog w "internal/strconv.uint64pow10" .u64 Lib.pow10Tab
theorem PTab.step {w w' : World} {S : List Nat} (h : PTab w) (k : Step [] S w w') : PTab w' := Lib.tabBelow_of_tabIs h w' k.below0
theorem sgrow_step (w : World) (k : Nat) (os : Array Obj) : Step [] [] w (Go.Sort.grow (w.drewN k) os) :=
 ⟨rfl, rfl, rfl, by simp [Go.Sort.grow, World.drewN], fun g hg _ => by simp only [Go.Sort.grow]; rw [Array.getElem?_append_left (by simpa [World.drewN] using hg)]; rfl, by simp⟩
/-- A number's digits. -/
def decS (n : Nat) : List UInt8 := Lib.decDigits n
theorem sitoa_any (n : Nat) (hn : n ≤ 1099511627776) (w : World) (hT : PTab w) : Calls Tryz.prog 50 #[.int .i64 n] w fun e w' => e = .returned (Str (decS n)) ∧ Step [] [] w w' := by
 refine (Tryz.sh_strconv_Itoa n (by omega) (by omega) w hT).mono ?_
 rintro e w' ⟨rfl, k, os, rfl⟩
 have e : Lib.itoa (n : Int) = decS n := by
  unfold Lib.itoa decS
  rw [if_neg (by omega), Int.toNat_natCast]
 rw [e]
 exact ⟨rfl, sgrow_step _ _ _⟩
theorem decS_digs : ∀ (k n : Nat), n < 10 ^ (k + 1) → (decS n).length ≤ k + 1 ∧ digs (k + 1) n = List.replicate (k + 1 - (decS n).length) 48 ++ decS n := by
 intro k
 induction k with
 | zero =>
  intro n hn
  have h1 : n < 10 := by simpa using hn
  unfold decS
  rw [Lib.decDigits, dif_pos h1]
  refine ⟨by simp, ?_⟩
  simp [digs, Nat.mod_eq_of_lt h1]
 | succ k ih =>
  intro n hn
  by_cases h1 : n < 10
  ·unfold decS
   rw [Lib.decDigits, dif_pos h1]
   refine ⟨by simp, ?_⟩
   have h2 := (ih (n / 10) (by rw [Nat.pow_succ] at hn; omega))
   have h0 : n / 10 = 0 := by omega
   rw [h0] at h2
   have h3 : decS 0 = [48] := by unfold decS; rw [Lib.decDigits, dif_pos (by omega)]; rfl
   rw [h3] at h2
   rw [digs, h0, h2.2, Nat.mod_eq_of_lt h1]
   simp [List.replicate_succ']
  ·have h2 := (ih (n / 10) (by rw [Nat.pow_succ] at hn; omega))
   have h3 : decS n = decS (n / 10) ++ [UInt8.ofNat (48 + n % 10)] := by
    unfold decS
    rw [Lib.decDigits, dif_neg h1]
    first | done | rfl | simp
   rw [h3, List.length_append, List.length_singleton]
   refine ⟨by omega, ?_⟩
   rw [digs, h2.2, show k + 1 + 1 - ((decS (n / 10)).length + 1) = k + 1 - (decS (n / 10)).length by omega, List.append_assoc]
theorem rep_one (c : UInt8) (m : Nat) : Lib.repeatL [c] m = List.replicate m c := by
 induction m with
 | zero => rfl
 | succ k ih => rw [Lib.repeatL, ih]; rfl
theorem str3 (a b c : List UInt8) : ((⟨a.toArray⟩ : ByteArray) ++ ⟨b.toArray⟩ ++ ⟨c.toArray⟩) = ⟨(a ++ (b ++ c)).toArray⟩ := by
 apply ByteArray.ext
 simp [ByteArray.append_eq, ByteArray.data_append]
set_option maxHeartbeats 2000000 in
theorem file_any (n : Nat) (hn : n ≤ 1099511627776) (w : World) (hT : PTab w) : Calls Tryz.prog 26 #[.int .i64 n] w fun e w' => e = .returned (Str (fileB n)) ∧ Step [] [] w w' := by
 have hd := decS_digs 12 n (by omega)
 have HT := Lib.hid (And.intro hT hd.2)
 have hl := hd.1
 clear hT hd
 go_enter Tryz.func26, Tryz.ntmps26
 go_wp2_with fail
 refine (sitoa_any n hn w HT.out.1).mono ?_
 rintro e w1 ⟨rfl, hst1⟩
 have H1 := Lib.hid hst1
 clear hst1
 go_wp2_with fail
 rw [show (13 : Int) - ((decS n).length : Int) = ((13 - (decS n).length : Nat) : Int) by omega]
 refine (Tryz.sh_strings_Repeat ⟨#[48]⟩ (13 - (decS n).length) w1 (by omega) (by simp [ByteArray.size]; omega)).mono ?_
 rintro e w2 ⟨rfl, hb⟩
 rw [show (ByteArray.mk #[(48 : UInt8)]).data.toList = [48] from rfl, rep_one]
 have HR := Lib.hid HT.out.2
 obtain ⟨z, hz⟩ : ∃ z, z = List.replicate (13 - (decS n).length) (48 : UInt8) := ⟨_, rfl⟩
 rw [← hz]
 have HZ : Hid (fileB n = [115] ++ (z ++ decS n)) := Lib.hid (by rw [hz, fileB, HT.out.2]; rfl)
 have hzl : z.length ≤ 13 := by rw [hz]; simp
 clear hz
 have H2 : Hid (Step [] [] w w2) := Lib.hid (H1.out.trans (Step.of_below hb))
 clear hb
 go_wp2_with fail
 refine bodyPost_ret (results_tmp rfl _ _ _) rfl ⟨?_, H2.out⟩
 rw [HZ.out]
 exact congrArg (fun x => Ending.returned (.string x)) (str3 [115] z (decS n))

def snc (s : Sn) : List Value := [.int .i64 s.i, .int .i64 s.t, Str s.dt]
abbrev snV (s : Sn) : Value := .agg #[.int .i64 s.i, .int .i64 s.t, Str s.dt]
theorem snc_one (s : Sn) : (snc s).toArray.all (·.oneCell') = true := by simp [snc, Value.oneCell']
set_option maxHeartbeats 4000000 in
theorem sright_any (s : Sn) (w : World) (hl : s.dt.length ≤ 140737488351232) : Calls Tryz.prog 25 #[snV s] w fun e w' => e = .returned (.bool (rightSn s)) ∧ Step [] [] w w' := by
 have H00 : Hid (Blk (w.alloc (.cells (snc s).toArray 33)) w.heap.size 33 (snc s).toArray ∧ Step [] [] w (w.alloc (.cells (snc s).toArray 33))) := Lib.hid ⟨Blk.new w _ _, (Step.refl [] w).alloc _⟩
 go_enter Tryz.func25, Tryz.ntmps25
 go_upto_region 1 with fail
 change Code.wp _ _ _ _ (w.alloc (.cells (snc s).toArray 33))
 obtain ⟨b, hb⟩ : ∃ b, b = w.heap.size := ⟨_, rfl⟩
 obtain ⟨V, hV⟩ : ∃ V, V = (w.alloc (.cells (snc s).toArray 33)) := ⟨_, rfl⟩
 rw [← hV, ← hb] at H00
 have H0 := H00
 rw [← hV]
 try rw [← hb]
 clear hV hb H00
 have fc := H0.out.1.cell
 have f0 := fc 0
 have f1 := fc 1
 have f2 := fc 2
 clear fc
 simp only [snc, List.getElem?_toArray, List.getElem?_cons_zero, List.getElem?_cons_succ] at f0 f1 f2
 by_cases h1 : 0 ≤ s.i
 ·have d1 : decide (0 ≤ s.i) = true := decide_eq_true h1
  by_cases h2 : s.i ≤ 1099511627776
  ·have d2 : decide (s.i ≤ 1099511627776) = true := decide_eq_true h2
   by_cases h3 : 0 ≤ s.t
   ·have d3 : decide (0 ≤ s.t) = true := decide_eq_true h3
    by_cases h4 : s.t ≤ 1099511627776
    ·have d4 : decide (s.t ≤ 1099511627776) = true := decide_eq_true h4
     by_cases h5 : s.dt.length ≤ 1048576
     ·have d5 : decide ((s.dt.length : Int) ≤ 1048576) = true := decide_eq_true (by omega)
      have HF : Hid (rightSn s = true) := Lib.hid (by unfold rightSn; rw [d1, d2, d3, d4, decide_eq_true h5]; rfl)
      go_wp2_with fail
      exact bodyPost_ret (results_tmp rfl _ _ _) rfl ⟨by rw [HF.out]; rfl, H0.out.2⟩
     ·have d5 : decide ((s.dt.length : Int) ≤ 1048576) = false := decide_eq_false (by omega)
      have HF : Hid (rightSn s = false) := Lib.hid (by unfold rightSn; rw [d1, d2, d3, d4, decide_eq_false h5]; rfl)
      go_wp2_with fail
      exact bodyPost_ret (results_tmp rfl _ _ _) rfl ⟨by rw [HF.out]; rfl, H0.out.2⟩
    ·have d4 : decide (s.t ≤ 1099511627776) = false := decide_eq_false h4
     have HF : Hid (rightSn s = false) := Lib.hid (by unfold rightSn; rw [d1, d2, d3, d4]; rfl)
     go_wp2_with fail
     exact bodyPost_ret (results_tmp rfl _ _ _) rfl ⟨by rw [HF.out]; rfl, H0.out.2⟩
   ·have d3 : decide (0 ≤ s.t) = false := decide_eq_false h3
    have HF : Hid (rightSn s = false) := Lib.hid (by unfold rightSn; rw [d1, d2, d3]; rfl)
    go_wp2_with fail
    exact bodyPost_ret (results_tmp rfl _ _ _) rfl ⟨by rw [HF.out]; rfl, H0.out.2⟩
  ·have d2 : decide (s.i ≤ 1099511627776) = false := decide_eq_false h2
   have HF : Hid (rightSn s = false) := Lib.hid (by unfold rightSn; rw [d1, d2]; rfl)
   go_wp2_with fail
   exact bodyPost_ret (results_tmp rfl _ _ _) rfl ⟨by rw [HF.out]; rfl, H0.out.2⟩
 ·have d1 : decide (0 ≤ s.i) = false := decide_eq_false h1
  have HF : Hid (rightSn s = false) := Lib.hid (by unfold rightSn; rw [d1]; rfl)
  go_wp2_with fail
  exact bodyPost_ret (results_tmp rfl _ _ _) rfl ⟨by rw [HF.out]; rfl, H0.out.2⟩
end Go.Proofs.YtjdgdmlhipbaaaaGreatDoor
namespace Go.Proofs.YtjdgdmlhipbaaaaGreatDoor
open Go.RowKit
set_option linter.unusedSimpArgs false
set_option linter.unusedVariables false
set_option maxRecDepth 100000

structure Tx (w0 w : World) (b : Nat) (s : Sn) (S : List Nat) (st : WS) : Prop where
  snap : Blk w b 33 (snc s).toArray
  wr : Wr w (b + 1) S st
  off : b ∉ S
  step : Step [] S w0 w
section
variable {w0 w w' : World} {b : Nat} {s : Sn} {S S' : List Nat} {st st' : WS}
theorem Tx.put (h : Tx w0 w b s S st) (g : Wr w' (b + 1) S' st') (k : Step S S' w w') : Tx w0 w' b s S' st' :=
  ⟨h.snap.step k h.off, g, k.notin h.snap.lt h.off, h.step.trans k⟩
theorem Tx.quiet (h : Tx w0 w b s S st) (k : Step [] [] w w') : Tx w0 w' b s S st :=
  ⟨h.snap.step k (by simp), h.wr.step k (by simp), h.off, h.step.trans (k.keep _)⟩
theorem Tx.cell (h : Tx w0 w b s S st) : w.cell? ⟨b, 0, none⟩ = some (.int .i64 s.i) ∧ w.cell? ⟨b, 1, none⟩ = some (.int .i64 s.t) ∧ w.cell? ⟨b, 2, none⟩ = some (Str s.dt) := by
  refine ⟨?_, ?_, ?_⟩ <;> (rw [h.snap.cell]; rfl)
theorem Tx.new (w : World) (s : Sn) : Tx w ((w.alloc (.cells (snc s).toArray 33)).alloc (.cells #[.slice none 0 0, .int .i64 0] 94)) w.heap.size s [w.heap.size + 1] ⟨[], 0⟩ := by
  have h1 : (w.alloc (.cells (snc s).toArray 33)).heap.size = w.heap.size + 1 := by simp
  have b1 := (Blk.new (w.alloc (.cells (snc s).toArray 33)) 94 #[.slice none 0 0, .int .i64 0])
  rw [h1] at b1
  have k := ((Step.refl [] w).alloc (.cells (snc s).toArray 33)).hold (.cells #[.slice none 0 0, .int .i64 0] 94)
  rw [h1] at k
  exact ⟨(Blk.new w _ _).alloc _, ⟨none, 0, b1, Row.none _ _, by simp [blks], rfl, by simp⟩, by simp, k⟩
end
theorem body_of {s : Sn} (h : RSn s) : wbytes (wtext (wnum (wnum ⟨[], 0⟩ s.i) s.t) s.dt) = (bodyB s, 0) := by
  have h1 := numB_len s.i.toNat (by have := h.i; omega)
  have h2 := numB_len s.t.toNat (by have := h.t; omega)
  have h3 := numB_len s.dt.length (by have := h.dt; omega)
  have hi := h.i
  have ht := h.t
  have hd := h.dt
  have e1 : wnum ⟨[], 0⟩ s.i = ⟨numB s.i.toNat, 0⟩ := by
    unfold wnum wput
    rw [if_neg (by simp; omega)]
    simp
    omega
  have e2 : wnum ⟨numB s.i.toNat, 0⟩ s.t = ⟨numB s.i.toNat ++ numB s.t.toNat, 0⟩ := by
    unfold wnum wput
    rw [if_neg (by simp; omega)]
    simp
    omega
  have e3 : wtext ⟨numB s.i.toNat ++ numB s.t.toNat, 0⟩ s.dt = ⟨numB s.i.toNat ++ numB s.t.toNat ++ (numB s.dt.length ++ s.dt), 0⟩ := by
    unfold wtext wput
    simp
    omega
  rw [e1, e2, e3]
  simp [wbytes, bodyB]
set_option maxHeartbeats 4000000 in
theorem stext_any (s : Sn) (hs : RSn s) (w : World) : Calls Tryz.prog 29 #[snV s] w fun e w' => e = .returned (Str (textB s)) ∧ Step [] [] w w' := by
  have HB := Lib.hid (body_of hs)
  have hbl := body_len hs
  have hi : s.i < 9223372036854775808 := by have := hs.i; omega
  have ht : s.t < 9223372036854775808 := by have := hs.t; omega
  have hd : s.dt.length ≤ 1048576 := hs.dt
  clear hs
  have H0 := Lib.hid (Tx.new w s)
  have c0 := H0.out.cell.1
  go_enter Tryz.func29, Tryz.ntmps29
  go_wp2_with fail
  refine (num_any _ _ _ s.i hi _ H0.out.wr).mono ?_
  rintro e w1 ⟨rfl, S1, g, k⟩
  have H1 := Lib.hid (H0.out.put g k)
  clear g k H0 c0
  have c1 := H1.out.cell.2.1
  go_wp2_with fail
  refine (num_any _ _ _ s.t ht _ H1.out.wr).mono ?_
  rintro e w2 ⟨rfl, S2, g, k⟩
  have H2 := Lib.hid (H1.out.put g k)
  clear g k H1 c1
  have c2 := H2.out.cell.2.2
  go_wp2_with fail
  refine (text_any _ _ _ s.dt _ H2.out.wr (by omega)).mono ?_
  rintro e w3 ⟨rfl, S3, g, k⟩
  have H3 := Lib.hid (H2.out.put g k)
  clear g k H2 c2
  go_wp2_with fail
  refine (bytes_any _ _ _ _ H3.out.wr).mono ?_
  rintro e w4 ⟨rfl, k⟩
  rw [HB.out]
  have H4 := Lib.hid ((H3.out.quiet k).step.drop (S'' := []) (by simp))
  clear k H3 HB
  obtain ⟨bd, hbd⟩ : ∃ bd, bd = bodyB s := ⟨_, rfl⟩
  have HT : Hid (textB s = be4 (crcL bd) ++ bd) := Lib.hid (by rw [hbd]; rfl)
  rw [← hbd] at hbl
  rw [← hbd]
  clear hbd
  go_wp2_with fail
  obtain ⟨g, cap, w5, hcv, hrow, hst, hg⟩ := run_row_of_str (P := Tryz.prog) (w := w4) 9 92 5 bd Tryz.underlying9 Tryz.underlying92 Tryz.underlying5 (by unfold maxLen; omega)
  rw [hcv, Result.andThen_ok, Oper.upon_value]
  have H5 := Lib.hid (And.intro hrow (H4.out.trans hst))
  clear hrow hst hcv hg
  go_wp2_with fail
  refine (of_any _ _ _ bd _ H5.out.1.rd rfl (by omega)).mono ?_
  rintro e w6 ⟨rfl, rfl⟩
  have H6 := Lib.hid H5.out.2
  clear H5
  obtain ⟨x, hx⟩ : ∃ x, x = crcL bd := ⟨_, rfl⟩
  rw [← hx]
  rw [← hx] at HT
  clear hx
  go_wp2_with fail
  have hcv2 : (convert 92 9 (.slice (some ⟨w5.heap.size, 0, none⟩) 4 4)).run Tryz.prog (w5.alloc (.cells #[.int .u8 ((lob (wshr x 24)).toNat : Int), .int .u8 ((lob (wshr x 16)).toNat : Int), .int .u8 ((lob (wshr x 8)).toNat : Int), .int .u8 ((lob x).toNat : Int)] 5)) = .ok (Str (be4 x)) (w5.alloc (.cells #[.int .u8 ((lob (wshr x 24)).toNat : Int), .int .u8 ((lob (wshr x 16)).toNat : Int), .int .u8 ((lob (wshr x 8)).toNat : Int), .int .u8 ((lob x).toNat : Int)] 5)) :=
    run_str_of_row (P := Tryz.prog) 92 9 5 Tryz.underlying92 Tryz.underlying5 Tryz.underlying9 (row_fresh w5 5 ((be4 x).map bv) (by simp [be4]; unfold maxLen; omega))
  have H7 : Hid (Step [] [] w (w5.alloc (.cells #[.int .u8 ((lob (wshr x 24)).toNat : Int), .int .u8 ((lob (wshr x 16)).toNat : Int), .int .u8 ((lob (wshr x 8)).toNat : Int), .int .u8 ((lob x).toNat : Int)] 5))) := Lib.hid ((H6.out.alloc _).drop (by simp))
  have h4 : (be4 x).length = 4 := rfl
  have hs4 : (be4 x).length ≤ 4 := by omega
  rw [hcv2, Result.andThen_ok, Oper.upon_value]
  clear hcv2
  generalize w5.alloc (.cells #[.int .u8 ((lob (wshr x 24)).toNat : Int), .int .u8 ((lob (wshr x 16)).toNat : Int), .int .u8 ((lob (wshr x 8)).toNat : Int), .int .u8 ((lob x).toNat : Int)] 5) = V at *
  generalize be4 x = y at *
  clear h4
  go_wp2_with fail
  exact bodyPost_ret (results_tmp rfl _ _ _) rfl ⟨by rw [HT.out]; rfl, H7.out⟩
end Go.Proofs.YtjdgdmlhipbaaaaGreatDoor
