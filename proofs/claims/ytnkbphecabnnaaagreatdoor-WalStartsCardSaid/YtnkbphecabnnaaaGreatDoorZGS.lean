/-
 Chapter 7 in plain words: a record, its frame, what is read of a segment's bytes. No program in sight.
-/
import Derived.Test.YtnkbphecabnnaaaGreatDoorZGI
import Derived.Test.YtnkbphecabnnaaaGreatDoorZGE
namespace Go.Proofs.YtnkbphecabnnaaaGreatDoor
open Go.RowKit Go.Maps
set_option linter.unusedSimpArgs false
set_option linter.unusedVariables false

structure Rc where
 k : Int
 i : Int
 t : Int
 v : Int
 dt : List UInt8
deriving DecidableEq
def rc0 : Rc := ⟨0, 0, 0, 0, []⟩
def numOk (n : Int) : Bool := decide (0 ≤ n) && decide (n ≤ 1099511627776)
def rightRc (r : Rc) : Bool := numOk r.i && numOk r.t && numOk r.v && decide (2 ≤ r.k) && decide (r.k ≤ 4) && decide (r.dt.length ≤ 131072)
/-- A record whose frame can be read back: right, or a beginning. -/
structure OkRc (r : Rc) : Prop where
 k : 1 ≤ r.k ∧ r.k ≤ 4
 i : 0 ≤ r.i ∧ r.i ≤ 1099511627776
 t : 0 ≤ r.t ∧ r.t ≤ 1099511627776
 v : 0 ≤ r.v ∧ r.v ≤ 1099511627776
 dt : r.dt.length ≤ 131072
theorem rightRc_ok {r : Rc} (h : rightRc r = true) : OkRc r ∧ 2 ≤ r.k := by
 unfold rightRc numOk at h
 simp only [Bool.and_eq_true, decide_eq_true_eq] at h
 obtain ⟨⟨⟨⟨⟨⟨a, b⟩, c, d⟩, e, f⟩, g⟩, h1⟩, h2⟩ := h
 exact ⟨⟨⟨by omega, h1⟩, ⟨a, b⟩, ⟨c, d⟩, ⟨e, f⟩, h2⟩, g⟩
def payB (r : Rc) : List UInt8 := numB r.k.toNat ++ (numB r.i.toNat ++ (numB r.t.toNat ++ (numB r.v.toNat ++ (numB r.dt.length ++ r.dt))))
def lenB (n : Nat) : List UInt8 := be4 (BitVec.ofNat 32 n)
def frameB (r : Rc) : List UInt8 := lenB (payB r).length ++ (be4 (crcL (payB r)) ++ payB r)
def framesB (l : List Rc) : List UInt8 := l.flatMap frameB
def headRc (n : Nat) : Rc := ⟨1, n, 0, 0, []⟩
theorem pay_len {r : Rc} (h : OkRc r) : (payB r).length ≤ r.dt.length + 45 := by
 have h0 := numB_len r.k.toNat (by have := h.k; omega)
 have h1 := numB_len r.i.toNat (by have := h.i; omega)
 have h2 := numB_len r.t.toNat (by have := h.t; omega)
 have h3 := numB_len r.v.toNat (by have := h.v; omega)
 have h4 := numB_len r.dt.length (by have := h.dt; omega)
 simp only [payB, List.length_append]
 omega
theorem frame_len (r : Rc) : (frameB r).length = 8 + (payB r).length := by
 simp only [frameB, lenB, List.length_append, be4_len]
 omega
/-- What is read of a payload. -/
def partsR (b : List UInt8) : Rc × RS :=
 let r1 := rnum ⟨b, false⟩
 let r2 := rnum r1.2
 let r3 := rnum r2.2
 let r4 := rnum r3.2
 let r5 := rtext r4.2 131072
 (⟨r1.1, r2.1, r3.1, r4.1, r5.1⟩, r5.2)
theorem rnum_back (n : Int) (h0 : 0 ≤ n) (h1 : n ≤ 1099511627776) (rest : List UInt8) : rnum ⟨numB n.toNat ++ rest, false⟩ = (n, ⟨rest, false⟩) := by
 have := upto_back n.toNat rest 4611686018427387903 (by omega) (by omega)
 rwa [Int.toNat_of_nonneg h0] at this
theorem partsR_more {r : Rc} (h : OkRc r) (rest : List UInt8) : partsR (payB r ++ rest) = (r, ⟨rest, false⟩) := by
 have e5 : rtext ⟨numB r.dt.length ++ r.dt ++ rest, false⟩ 131072 = (r.dt, ⟨rest, false⟩) := text_back r.dt rest 131072 (by have := h.dt; omega) (by have := h.dt; omega)
 unfold partsR payB
 simp only [List.append_assoc]
 rw [rnum_back r.k (by have := h.k; omega) (by have := h.k; omega)]
 simp only
 rw [rnum_back r.i h.i.1 h.i.2]
 simp only
 rw [rnum_back r.t h.t.1 h.t.2]
 simp only
 rw [rnum_back r.v h.v.1 h.v.2]
 simp only
 rw [List.append_assoc] at e5
 rw [e5]
theorem partsR_back {r : Rc} (h : OkRc r) : partsR (payB r) = (r, ⟨[], false⟩) := by
 have := partsR_more h []
 rwa [List.append_nil] at this
/-- The record of the frame that bytes begin with, and how long that is. -/
def frB (u : List UInt8) : Option (Rc × Nat) :=
 if u.length < 8 then none
 else if 262144 < val (u.take 4) ∨ u.length - 8 < val (u.take 4) then none
 else if be4 (crcL ((u.drop 8).take (val (u.take 4)))) ≠ (u.drop 4).take 4 then none
 else if rend (partsR ((u.drop 8).take (val (u.take 4)))).2 = 0 ∧ 0 < (partsR ((u.drop 8).take (val (u.take 4)))).1.k then some ((partsR ((u.drop 8).take (val (u.take 4)))).1, 8 + val (u.take 4)) else none
theorem val_be4 (x : Wd) : val (be4 x) = x.toNat := by
 have e0 : (lob x).toNat = x.toNat % 256 := by simp [lob, UInt8.toNat_ofNat']
 have e1 : (lob (wshr x 8)).toNat = x.toNat / 256 % 256 := by rw [lob, shr_nat]; simp [UInt8.toNat_ofNat']
 have e2 : (lob (wshr x 16)).toNat = x.toNat / 65536 % 256 := by rw [lob, shr_nat]; simp [UInt8.toNat_ofNat']
 have e3 : (lob (wshr x 24)).toNat = x.toNat / 16777216 % 256 := by rw [lob, shr_nat]; simp [UInt8.toNat_ofNat']
 have hb := x.isLt
 simp only [be4, val, List.foldl_cons, List.foldl_nil, e0, e1, e2, e3]
 omega
theorem val_lenB {n : Nat} (h : n < 4294967296) : val (lenB n) = n := by
 unfold lenB
 rw [val_be4, BitVec.toNat_ofNat, Nat.mod_eq_of_lt (by omega)]
theorem fr_back {r : Rc} (h : OkRc r) (rest : List UInt8) : frB (frameB r ++ rest) = some (r, (frameB r).length) := by
 have hp := pay_len h
 have hd := h.dt
 have hl : (lenB (payB r).length).length = 4 := be4_len _
 have hv : val (lenB (payB r).length) = (payB r).length := val_lenB (by omega)
 have e4 : (frameB r ++ rest).take 4 = lenB (payB r).length := by
  unfold frameB
  rw [List.append_assoc, List.take_left' hl]
 have e44 : ((frameB r ++ rest).drop 4).take 4 = be4 (crcL (payB r)) := by
  unfold frameB
  rw [List.append_assoc, List.drop_left' hl, List.append_assoc, List.take_left' (be4_len _)]
 have e8 : ((frameB r ++ rest).drop 8).take (payB r).length = payB r := by
  have : (frameB r ++ rest).drop 8 = payB r ++ rest := by
   have e : frameB r ++ rest = (lenB (payB r).length ++ be4 (crcL (payB r))) ++ (payB r ++ rest) := by unfold frameB; simp
   rw [e, List.drop_left' (by rw [List.length_append, hl, be4_len])]
  rw [this, List.take_left]
 have hlen : (frameB r ++ rest).length = 8 + (payB r).length + rest.length := by rw [List.length_append, frame_len]
 unfold frB
 rw [e4, hv, e44, e8, hlen, partsR_back h, if_neg (by omega), if_neg (by omega), if_neg (by simp)]
 simp only
 rw [if_pos ⟨by unfold rend; simp, by have := h.k; omega⟩, frame_len]
/-- The records that stand at the beginning of bytes, and how long these are. -/
def recsF : Nat → List UInt8 → List Rc × Nat
 | 0, _ => ([], 0)
 | f + 1, u => match frB u with
  | none => ([], 0)
  | some (r, n) => if rightRc r then (r :: (recsF f (u.drop n)).1, n + (recsF f (u.drop n)).2) else ([], 0)
def recs (u : List UInt8) : List Rc × Nat := recsF u.length u
theorem frB_len {u : List UInt8} {r : Rc} {n : Nat} (h : frB u = some (r, n)) : 8 ≤ n ∧ n ≤ u.length ∧ n ≤ 262152 := by
 unfold frB at h
 split at h
 ·cases h
 ·split at h
  ·cases h
  ·split at h
   ·cases h
   ·split at h
    ·injection h with h
     injection h with h1 h2
     omega
    ·cases h
theorem recsF_more : ∀ (f g : Nat) (u : List UInt8), u.length ≤ f → f ≤ g → recsF g u = recsF f u
 | 0, g, u, h, _ => by
  have hu : u = [] := List.eq_nil_of_length_eq_zero (by omega)
  subst hu
  cases g with
  | zero => rfl
  | succ g => rw [recsF, recsF]; rfl
 | f + 1, g, u, h, hg => by
  obtain ⟨g, rfl⟩ : ∃ g', g = g' + 1 := ⟨g - 1, by omega⟩
  rw [recsF, recsF]
  cases hf : frB u with
  | none => rfl
  | some q =>
   obtain ⟨r, n⟩ := q
   have := frB_len hf
   have e := recsF_more f g (u.drop n) (by rw [List.length_drop]; omega) (by omega)
   simp only [e]
theorem recs_none {u : List UInt8} (h : frB u = none) : recs u = ([], 0) := by
 unfold recs
 cases hl : u.length with
 | zero => rfl
 | succ f => rw [recsF, h]
theorem recs_some {u : List UInt8} {r : Rc} {n : Nat} (h : frB u = some (r, n)) : recs u = if rightRc r then (r :: (recs (u.drop n)).1, n + (recs (u.drop n)).2) else ([], 0) := by
 have hb := frB_len h
 unfold recs
 obtain ⟨f, hf⟩ : ∃ f, u.length = f + 1 := ⟨u.length - 1, by omega⟩
 rw [hf, recsF, h]
 simp only
 rw [recsF_more (u.drop n).length f (u.drop n) (Nat.le_refl _) (by rw [List.length_drop]; omega)]
theorem recs_nil : recs [] = ([], 0) := rfl
theorem recs_back {l : List Rc} (h : ∀ r ∈ l, rightRc r = true) (rest : List UInt8) : recs (framesB l ++ rest) = (l ++ (recs rest).1, (framesB l).length + (recs rest).2) := by
 induction l with
 | nil => simp [framesB]
 | cons r q ih =>
  have hr := h r (by simp)
  have e : framesB (r :: q) ++ rest = frameB r ++ (framesB q ++ rest) := by simp [framesB]
  rw [e, recs_some (fr_back (rightRc_ok hr).1 _), if_pos hr, List.drop_left, ih fun x hx => h x (by simp [hx])]
  simp [framesB, Nat.add_assoc]
theorem recs_le (u : List UInt8) : (recs u).2 ≤ u.length ∧ 8 * (recs u).1.length ≤ (recs u).2 ∧ ∀ r ∈ (recs u).1, rightRc r = true := by
 have key : ∀ (f : Nat) (u : List UInt8), (recsF f u).2 ≤ u.length ∧ 8 * (recsF f u).1.length ≤ (recsF f u).2 ∧ ∀ r ∈ (recsF f u).1, rightRc r = true := by
  intro f
  induction f with
  | zero => intro u; simp [recsF]
  | succ f ih =>
   intro u
   rw [recsF]
   cases hf : frB u with
   | none => simp
   | some q =>
    obtain ⟨r, n⟩ := q
    have hb := frB_len hf
    obtain ⟨h1, h2, h3⟩ := ih (u.drop n)
    rw [List.length_drop] at h1
    simp only
    split
    ·rename_i hr
     refine ⟨by omega, by simp; omega, fun x hx => ?_⟩
     rcases List.mem_cons.1 hx with rfl | hx
     ·exact hr
     ·exact h3 x hx
    ·simp
 exact key _ u
end Go.Proofs.YtnkbphecabnnaaaGreatDoor
namespace Go.Proofs.YtnkbphecabnnaaaGreatDoor
open Go.RowKit Go.Maps
set_option linter.unusedSimpArgs false
set_option linter.unusedVariables false

/-- A segment's file. -/
def fileW (n : Nat) : List UInt8 := 119 :: digs 12 n
theorem fileW_len (n : Nat) : (fileW n).length = 13 := by simp [fileW, digs_len]
theorem fileW_inj {a b : Nat} (ha : a ≤ 999999999999) (hb : b ≤ 999999999999) (h : fileW a = fileW b) : a = b :=
  digs_inj 12 a b (by omega) (by omega) (List.cons.inj h).2
theorem fileW_right (n : Nat) : rightL (fileW n) = true := by
  unfold rightL
  rw [right_low _ _ _ (fun c hc => by
    rcases List.mem_cons.1 hc with rfl | hc
    · exact .inl (by decide)
    · exact .inr (digs_range 12 n c hc)), fileW_len]
  decide
/-- The number of digits. -/
def decv (b : List UInt8) : Nat := b.foldl (fun a c => a * 10 + (c.toNat - 48)) 0
theorem decv_digs (k n : Nat) : decv (digs k n) = n % 10 ^ k := by
  induction k generalizing n with
  | zero => simp [digs, decv, Nat.mod_one]
  | succ k ih =>
    have h := ih (n / 10)
    unfold decv at h ⊢
    rw [digs, List.foldl_append, h]
    simp only [List.foldl_cons, List.foldl_nil]
    rw [dig_nat _ (by omega), Nat.pow_succ, Nat.mul_comm (10 ^ k) 10, Nat.mod_mul]
    omega
/-- A segment's number; 0: the file is none. -/
def numW (f : List UInt8) : Nat := if f.length = 13 ∧ f.head? = some 119 ∧ (f.tail.all fun c => decide (48 ≤ c.toNat) && decide (c.toNat ≤ 57)) = true then decv f.tail else 0
theorem numW_file {n : Nat} (h : n ≤ 999999999999) : numW (fileW n) = n := by
  unfold numW
  rw [if_pos ⟨fileW_len n, rfl, by
    simp only [fileW, List.tail_cons, List.all_eq_true, Bool.and_eq_true, decide_eq_true_eq]
    exact fun c hc => digs_range 12 n c hc⟩]
  show decv (digs 12 n) = n
  rw [decv_digs]
  omega
/-- Where the records of a segment with a beginning stand. -/
def begB (s : List UInt8) : Option Nat := match frB s with
  | none => none
  | some (r, n) => if r = ⟨1, r.i, 0, 0, []⟩ ∧ r.i ≤ ((recs (s.drop n)).1.length : Int) then some n else none
/-- What the program answers: the place, and whether there is a beginning. -/
def begV (s : List UInt8) : Nat × Bool := match frB s with
  | none => (0, false)
  | some (r, n) => if r = ⟨1, r.i, 0, 0, []⟩ then (n, decide (r.i ≤ ((recs (s.drop n)).1.length : Int))) else (0, false)
theorem begB_begV (s : List UInt8) : begB s = if (begV s).2 = true then some (begV s).1 else none := by
  unfold begB begV
  cases frB s with
  | none => rfl
  | some q =>
    obtain ⟨r, n⟩ := q
    simp only
    by_cases h : r = ⟨1, r.i, 0, 0, []⟩
    · rw [if_pos h]
      by_cases h2 : r.i ≤ ((recs (s.drop n)).1.length : Int)
      · rw [if_pos ⟨h, h2⟩, if_pos (by simpa using h2)]
      · rw [if_neg (fun x => h2 x.2), if_neg (by simpa using h2)]
    · rw [if_neg h, if_neg (fun x => h x.1), if_neg (by simp)]
theorem begV_some {s : List UInt8} {p : Nat} (h : begB s = some p) : (begV s).1 = p := by
  rw [begB_begV] at h
  split at h
  · injection h
  · cases h
def segS (s : St) : List Nat := ((namesS s).map numW).filter fun n => decide (0 < n)
/-- A log: its first and its last segment (0: there is none), the last one's size, whether it is over. -/
structure Wl where
  f : Int
  l : Int
  z : Int
  o : Bool
def textW (s : St) (n : Nat) : List UInt8 := (readS s (fileW n)).1
def firstS (s : St) (all : List Nat) : Nat := all.foldl (fun a n => if begB (textW s n) = none then a else n) 0
structure OpS where
  whole : Bool
  last : Nat
  size : Nat
  out : List Rc
  s : St
def fromW (first n : Nat) (t : List UInt8) : Nat := if n = first then (begV t).1 else 0
def goneW (first n : Nat) (o : OpS) : Prop := n < first ∨ o.whole = false ∨ (n ≠ o.last + 1 ∧ n ≠ first)
instance (first n : Nat) (o : OpS) : Decidable (goneW first n o) := by unfold goneW; infer_instance
/-- One segment: the error, and what stands behind it. -/
def opStep (first n : Nat) (o : OpS) : Int × OpS :=
  if goneW first n o then ((removeS o.s (fileW n)).1, ⟨o.whole && decide (n < first), o.last, o.size, o.out, (removeS o.s (fileW n)).2⟩)
  else
    let t := textW o.s n
    let q := recs (t.drop (fromW first n t))
    let e := fromW first n t + q.2
    if e < t.length then ((cutS o.s (fileW n) e).1, ⟨false, n, e, o.out ++ q.1, (cutS o.s (fileW n) e).2⟩)
    else (0, ⟨o.whole, n, e, o.out ++ q.1, o.s⟩)
def opLoop (first : Nat) : List Nat → OpS → Int × OpS
  | [], o => (0, o)
  | n :: r, o => if (opStep first n o).1 ≠ 0 then opStep first n o else opLoop first r (opStep first n o).2
def opFirst (s : St) : OpS := ⟨decide (0 < firstS s (segS s)), 0, 0, [], s⟩
/-- Open: the error, the log, its records, the disk behind it. -/
def openS (s : St) : Int × Wl × List Rc × St :=
  if s.off then (7, ⟨0, 0, 0, false⟩, [], s)
  else
    let r := opLoop (firstS s (segS s)) (segS s) (opFirst s)
    if r.1 ≠ 0 then (r.1, ⟨0, 0, 0, false⟩, [], r.2.s) else (0, ⟨firstS s (segS s), r.2.last, r.2.size, false⟩, r.2.out, r.2.s)
def noteW (w : Wl) (e : Int) : Wl := if e ≠ 0 ∧ e ≠ 6 then ⟨w.f, w.l, w.z, true⟩ else w
/-- The elder segments are taken away. -/
def dropW : Nat → Nat → St → Int × St
  | _, 0, s => (0, s)
  | k, m + 1, s => if (removeS s (fileW k)).1 ≠ 0 then removeS s (fileW k) else dropW (k + 1) m (removeS s (fileW k)).2
def startS (w : Wl) (l : List Rc) (s : St) : Int × Wl × St :=
  if w.o then (7, w, s)
  else if (l.all rightRc) = false then (1, w, s)
  else if 999999999999 < w.l + 1 then (2, w, s)
  else
    let n := (w.l + 1).toNat
    let b := frameB (headRc l.length) ++ framesB l
    let r1 := appendS s (fileW n) b
    if r1.1 ≠ 0 then (r1.1, noteW w r1.1, r1.2)
    else
      let r2 := syncS r1.2 (fileW n)
      if r2.1 ≠ 0 then (r2.1, noteW w r2.1, r2.2)
      else
        let r3 := if 0 < w.f then dropW w.f.toNat (n - w.f.toNat) r2.2 else (0, r2.2)
        if r3.1 ≠ 0 then (r3.1, noteW w r3.1, r3.2) else (0, ⟨n, n, b.length, false⟩, r3.2)
def putW (w : Wl) (n : Int) (z : Int) (b : List UInt8) (s : St) : Int × Wl × St :=
  let r := appendS s (fileW n.toNat) b
  if r.1 ≠ 0 then (r.1, noteW w r.1, r.2) else (0, ⟨w.f, n, z + b.length, w.o⟩, r.2)
def appendW (w : Wl) (l : List Rc) (s : St) : Int × Wl × St :=
  if w.o then (7, w, s)
  else if (l.all rightRc) = false ∨ w.l = 0 then (1, w, s)
  else if l = [] then (0, w, s)
  else if 2048 ≤ w.z then
    if w.l = 999999999999 then (2, w, s)
    else
      let r := syncS s (fileW w.l.toNat)
      if r.1 ≠ 0 then (r.1, noteW w r.1, r.2) else putW w (w.l + 1) 0 (framesB l) r.2
  else putW w w.l w.z (framesB l) s
def syncW (w : Wl) (s : St) : Int × Wl × St :=
  if w.o then (7, w, s) else if w.l = 0 then (0, w, s) else ((syncS s (fileW w.l.toNat)).1, noteW w (syncS s (fileW w.l.toNat)).1, (syncS s (fileW w.l.toNat)).2)
def segsW (w : Wl) : Int := if w.o ∨ w.l = 0 then 0 else w.l - w.f + 1
end Go.Proofs.YtnkbphecabnnaaaGreatDoor
namespace Go.Proofs.YtnkbphecabnnaaaGreatDoor
open Go.RowKit Go.Maps
set_option linter.unusedSimpArgs false
set_option linter.unusedVariables false

theorem frB_at {a b : List UInt8} {n : Nat} (ha : 8 ≤ a.length) (hn : 8 + val (a.take 4) ≤ a.length) : frB (a ++ b) = frB a := by
  have e4 : (a ++ b).take 4 = a.take 4 := List.take_append_of_le_length (by omega)
  have e44 : ((a ++ b).drop 4).take 4 = (a.drop 4).take 4 := by
    rw [List.drop_append_of_le_length (by omega), List.take_append_of_le_length (by rw [List.length_drop]; omega)]
  have e8 : ((a ++ b).drop 8).take (val (a.take 4)) = (a.drop 8).take (val (a.take 4)) := by
    rw [List.drop_append_of_le_length (by omega), List.take_append_of_le_length (by rw [List.length_drop]; omega)]
  unfold frB
  rw [e4, e44, e8, if_neg (by rw [List.length_append]; omega), if_neg (show ¬ a.length < 8 by omega)]
  by_cases h1 : 262144 < val (a.take 4)
  · rw [if_pos (.inl h1), if_pos (.inl h1)]
  · have c1 : ¬ (262144 < val (a.take 4) ∨ (a ++ b).length - 8 < val (a.take 4)) := by
      rintro (h | h)
      · exact h1 h
      · rw [List.length_append] at h; omega
    have c2 : ¬ (262144 < val (a.take 4) ∨ a.length - 8 < val (a.take 4)) := by
      rintro (h | h)
      · exact h1 h
      · omega
    rw [if_neg c1, if_neg c2]
theorem frB_val {u : List UInt8} {r : Rc} {n : Nat} (h : frB u = some (r, n)) : 8 ≤ u.length ∧ n = 8 + val (u.take 4) ∧ 8 + val (u.take 4) ≤ u.length := by
  have hb := frB_len h
  unfold frB at h
  split at h
  · cases h
  · split at h
    · cases h
    · split at h
      · cases h
      · split at h
        · injection h with h
          injection h with h1 h2
          exact ⟨by omega, h2.symm, by omega⟩
        · cases h
theorem frB_app {u v : List UInt8} {r : Rc} {n : Nat} (h : frB u = some (r, n)) : frB (u ++ v) = some (r, n) := by
  obtain ⟨h1, h2, h3⟩ := frB_val h
  rw [frB_at (n := n) h1 h3, h]
theorem frB_cut {a b : List UInt8} {r : Rc} {n : Nat} (h : frB (a ++ b) = some (r, n)) (hn : n ≤ a.length) : frB a = some (r, n) := by
  obtain ⟨h1, h2, h3⟩ := frB_val h
  have hb := frB_len h
  have e4 : (a ++ b).take 4 = a.take 4 := List.take_append_of_le_length (by omega)
  rw [e4] at h2
  rw [← frB_at (n := n) (b := b) (by omega) (by omega), h]
theorem frB_short {a b : List UInt8} {r : Rc} {n : Nat} (h : frB (a ++ b) = some (r, n)) (hn : a.length < n) : frB a = none := by
  cases ha : frB a with
  | none => rfl
  | some q =>
    obtain ⟨r', n'⟩ := q
    have h2 := frB_app (v := b) ha
    rw [h] at h2
    injection h2 with h2
    injection h2 with _ h3
    have := frB_len ha
    omega
theorem recs_app {u v : List UInt8} (h : (recs u).2 = u.length) : recs (u ++ v) = ((recs u).1 ++ (recs v).1, u.length + (recs v).2) := by
  have key : ∀ (f : Nat) (u : List UInt8), u.length ≤ f → (recs u).2 = u.length → recs (u ++ v) = ((recs u).1 ++ (recs v).1, u.length + (recs v).2) := by
    intro f
    induction f with
    | zero =>
      intro u hf h
      have hu : u = [] := List.eq_nil_of_length_eq_zero (by omega)
      subst hu
      simp [recs_nil]
    | succ f ih =>
      intro u hf h
      cases hq : frB u with
      | none =>
        rw [recs_none hq] at h
        have hu : u = [] := List.eq_nil_of_length_eq_zero h.symm
        subst hu
        simp [recs_nil]
      | some q =>
        obtain ⟨r, n⟩ := q
        have hb := frB_len hq
        rw [recs_some hq] at h ⊢
        by_cases hr : rightRc r = true
        · rw [if_pos hr] at h ⊢
          simp only at h
          have e := ih (u.drop n) (by rw [List.length_drop]; omega) (by rw [List.length_drop]; omega)
          rw [recs_some (frB_app hq), if_pos hr, List.drop_append_of_le_length hb.2.1, e, List.length_drop]
          simp only [List.cons_append, Prod.mk.injEq, true_and]
          omega
        · rw [if_neg hr] at h
          simp only at h
          omega
  exact key _ u (Nat.le_refl _) h
theorem recs_take (u : List UInt8) : recs (u.take (recs u).2) = recs u := by
  have key : ∀ (f : Nat) (u : List UInt8), u.length ≤ f → recs (u.take (recs u).2) = recs u := by
    intro f
    induction f with
    | zero =>
      intro u hf
      have hu : u = [] := List.eq_nil_of_length_eq_zero (by omega)
      subst hu
      rfl
    | succ f ih =>
      intro u hf
      cases hq : frB u with
      | none => rw [recs_none hq]; rfl
      | some q =>
        obtain ⟨r, n⟩ := q
        have hb := frB_len hq
        rw [recs_some hq]
        by_cases hr : rightRc r = true
        · rw [if_pos hr]
          simp only
          have hle := (recs_le (u.drop n)).1
          have e := ih (u.drop n) (by rw [List.length_drop]; omega)
          have hc : frB (u.take (n + (recs (u.drop n)).2)) = some (r, n) := by
            refine frB_cut (b := u.drop (n + (recs (u.drop n)).2)) (by rw [List.take_append_drop]; exact hq) ?_
            rw [List.length_take]
            omega
          rw [recs_some hc, if_pos hr]
          have e2 : (u.take (n + (recs (u.drop n)).2)).drop n = (u.drop n).take (recs (u.drop n)).2 := by
            rw [List.drop_take]
            congr 1
            omega
          rw [e2, e]
        · rw [if_neg hr]
          rfl
  exact key _ u (Nat.le_refl _)
/-! ### beginnings -/
theorem begB_some {s : List UInt8} {n : Nat} (h : begB s = some n) : ∃ i : Int, frB s = some (⟨1, i, 0, 0, []⟩, n) ∧ i ≤ ((recs (s.drop n)).1.length : Int) := by
  unfold begB at h
  cases hf : frB s with
  | none => rw [hf] at h; cases h
  | some q =>
    obtain ⟨r, m⟩ := q
    rw [hf] at h
    simp only at h
    split at h
    · rename_i hc
      injection h with h
      subst h
      exact ⟨r.i, by rw [← hc.1], hc.2⟩
    · cases h
theorem begB_of {s : List UInt8} {n : Nat} {i : Int} (h : frB s = some (⟨1, i, 0, 0, []⟩, n)) (hi : i ≤ ((recs (s.drop n)).1.length : Int)) : begB s = some n := by
  unfold begB
  rw [h]
  simp only
  rw [if_pos ⟨trivial, hi⟩]
/-- What a record that is right begins is no beginning. -/
theorem begB_right {s : List UInt8} {r : Rc} {n : Nat} (h : frB s = some (r, n)) (hr : rightRc r = true) : begB s = none := by
  unfold begB
  rw [h]
  simp only
  rw [if_neg]
  rintro ⟨h1, _⟩
  have := (rightRc_ok hr).2
  rw [h1] at this
  simp at this
theorem begB_none {s : List UInt8} (h : frB s = none) : begB s = none := by unfold begB; rw [h]
/-- Of a segment without a beginning, what is read is none. -/
theorem begB_read {s : List UInt8} (h : begB s = none) : begB (s.take (recs s).2) = none := by
  cases hf : frB s with
  | none => rw [recs_none hf]; rfl
  | some q =>
    obtain ⟨r, n⟩ := q
    have hb := frB_len hf
    by_cases hr : rightRc r = true
    · rw [recs_some hf, if_pos hr]
      refine begB_right (r := r) (n := n) (frB_cut (b := s.drop (n + (recs (s.drop n)).2)) (by rw [List.take_append_drop]; exact hf) ?_) hr
      rw [List.length_take]
      omega
    · rw [recs_some hf, if_neg hr]
      rfl
theorem begB_keep {s : List UInt8} {n : Nat} (h : begB s = some n) : begB (s.take (n + (recs (s.drop n)).2)) = some n ∧ (s.take (n + (recs (s.drop n)).2)).drop n = (s.drop n).take (recs (s.drop n)).2 := by
  obtain ⟨i, h1, h2⟩ := begB_some h
  have hb := frB_len h1
  have hle := (recs_le (s.drop n)).1
  rw [List.length_drop] at hle
  have e2 : (s.take (n + (recs (s.drop n)).2)).drop n = (s.drop n).take (recs (s.drop n)).2 := by
    rw [List.drop_take]
    congr 1
    omega
  refine ⟨begB_of (i := i) (frB_cut (b := s.drop (n + (recs (s.drop n)).2)) (by rw [List.take_append_drop]; exact h1) (by rw [List.length_take]; omega)) ?_, e2⟩
  rw [e2, recs_take]
  exact h2
end Go.Proofs.YtnkbphecabnnaaaGreatDoor
namespace Go.Proofs.YtnkbphecabnnaaaGreatDoor
open Go.RowKit Go.Maps
set_option linter.unusedSimpArgs false
set_option linter.unusedVariables false

theorem wdigs_mod (k : Nat) : ∀ n, digs k n = digs k (n % 10 ^ k) := by
 induction k with
 | zero => intro n; rfl
 | succ k ih =>
  intro n
  rw [digs, digs, ih (n / 10), ih (n % 10 ^ (k + 1) / 10)]
  have h1 : n % 10 ^ (k + 1) / 10 % 10 ^ k = n / 10 % 10 ^ k := by
   rw [Nat.pow_succ, Nat.mod_mul_left_div_self, Nat.mod_mod]
  have h2 : n % 10 ^ (k + 1) % 10 = n % 10 := by rw [Nat.pow_succ, Nat.mod_mul_left_mod]
  rw [h1, h2]
theorem wdigs_front (k n : Nat) : digs (k + 1) n = UInt8.ofNat (48 + n / 10 ^ k % 10) :: digs k n := by
 induction k generalizing n with
 | zero => simp [digs]
 | succ k ih =>
  rw [digs, ih]
  conv => rhs; rw [digs]
  rw [Nat.div_div_eq_div_mul, ← Nat.pow_succ', List.cons_append]
theorem wdigs_lt (k : Nat) : ∀ a b, a < b → b < 10 ^ k → bytesBefore (digs k a) (digs k b) = true := by
 induction k with
 | zero => intro a b h1 h2; simp at h2; omega
 | succ k ih =>
  intro a b h1 h2
  have hp : 0 < 10 ^ k := Nat.pow_pos (by omega)
  rw [Nat.pow_succ] at h2
  have hb : b / 10 ^ k < 10 := Nat.div_lt_of_lt_mul h2
  have hab : a / 10 ^ k ≤ b / 10 ^ k := Nat.div_le_div_right (by omega)
  rw [wdigs_front, wdigs_front]
  have ea : a / 10 ^ k % 10 = a / 10 ^ k := Nat.mod_eq_of_lt (by omega)
  have eb : b / 10 ^ k % 10 = b / 10 ^ k := Nat.mod_eq_of_lt hb
  rw [ea, eb]
  unfold bytesBefore
  by_cases he : a / 10 ^ k = b / 10 ^ k
  ·have hr : bytesBefore (digs k a) (digs k b) = true := by
    rw [wdigs_mod k a, wdigs_mod k b]
    refine ih _ _ ?_ (Nat.mod_lt _ hp)
    have h3 := Nat.div_add_mod a (10 ^ k)
    have h4 := Nat.div_add_mod b (10 ^ k)
    rw [he] at h3
    omega
   rw [he, hr]
   simp
  ·have : UInt8.ofNat (48 + a / 10 ^ k) < UInt8.ofNat (48 + b / 10 ^ k) := by
    rw [UInt8.lt_iff_toNat_lt, dig_nat _ (by omega), dig_nat _ hb]
    omega
   rw [decide_eq_true this, Bool.true_or]
theorem fileW_before {a b : Nat} (h : a < b) (hb : b ≤ 999999999999) : bytesBefore (fileW a) (fileW b) = true := by
 unfold fileW bytesBefore
 rw [wdigs_lt 12 a b h (by omega)]
 simp
theorem fileW_lt {a b : Nat} (ha : a ≤ 999999999999) (h : bytesBefore (fileW a) (fileW b) = true) : a < b := by
 rcases Nat.lt_trichotomy a b with h1 | h1 | h1
 ·exact h1
 ·rw [h1, WideAt.bytes_irrefl] at h; cases h
 ·exfalso
  have h2 := (before_lt _ _).1 (fileW_before h1 ha)
  have h3 := (before_lt _ _).1 h
  exact absurd h2 (List.lt_asymm h3)
/-- All files are segments', or look like it. -/
def NmW (E : List En) : Prop := ∀ e ∈ E, ∃ n, n ≤ 999999999999 ∧ e.n = fileW n
def contW (E : List En) (n : Nat) : Option (List UInt8) := bytesE E (fileW n)
structure Stl (s : St) (room : Int) : Prop where
 off : s.off = false
 fuse : s.fuse = -1
 room : s.room = room
 ris : ERis s.E
 nm : NmW s.E
theorem contW_mem {E : List En} {n : Nat} (h : contW E n ≠ none) : ∃ e ∈ E, e.n = fileW n := by
 unfold contW bytesE at h
 cases hg : eget E (fileW n) with
 | none => rw [hg] at h; exact absurd rfl h
 | some e => exact ⟨e, (eget_mem hg).1, (eget_mem hg).2⟩
theorem contW_of {E : List En} {n : Nat} {e : En} (he : e ∈ E) (hn : e.n = fileW n) : contW E n ≠ none := by
 unfold contW bytesE
 intro h
 cases hg : eget E (fileW n) with
 | none =>
  unfold eget at hg
  have := List.find?_eq_none.1 hg e he
  simp [hn] at this
 | some y => rw [hg] at h; cases h
theorem segS_rise {s : St} {room : Int} (h : Stl s room) : (segS s).Pairwise (· < ·) := by
 have hn : namesS s = s.E.map En.n := by unfold namesS; rw [h.off]; rfl
 unfold segS
 rw [hn]
 refine List.Pairwise.sublist List.filter_sublist ?_
 rw [List.pairwise_map, List.pairwise_map]
 refine List.Pairwise.imp_of_mem ?_ h.ris
 intro a b ha hb hab
 obtain ⟨i, hi, ei⟩ := h.nm a ha
 obtain ⟨j, hj, ej⟩ := h.nm b hb
 rw [ei, ej, numW_file hi, numW_file hj]
 rw [ei, ej] at hab
 exact fileW_lt hi hab
theorem segS_mem {s : St} {room : Int} (h : Stl s room) (n : Nat) : n ∈ segS s ↔ 0 < n ∧ n ≤ 999999999999 ∧ contW s.E n ≠ none := by
 have hn : namesS s = s.E.map En.n := by unfold namesS; rw [h.off]; rfl
 unfold segS
 rw [hn, List.mem_filter, List.map_map, List.mem_map]
 simp only [decide_eq_true_eq]
 constructor
 ·rintro ⟨⟨e, he, e2⟩, h0⟩
  obtain ⟨i, hi, ei⟩ := h.nm e he
  simp only [Function.comp] at e2
  rw [ei, numW_file hi] at e2
  subst e2
  exact ⟨h0, hi, contW_of he ei⟩
 ·rintro ⟨h0, hb, hc⟩
  obtain ⟨e, he, e2⟩ := contW_mem hc
  exact ⟨⟨e, he, by simp only [Function.comp]; rw [e2, numW_file hb]⟩, h0⟩
theorem textW_is {s : St} {room : Int} (h : Stl s room) {n : Nat} {t : List UInt8} (hc : contW s.E n = some t) : textW s n = t := by
 unfold textW
 rw [readS_bytes h.off]
 unfold contW at hc
 rw [hc]
theorem nm_del {E : List En} (h : NmW E) (f : List UInt8) : NmW (edel E f) := fun e he => h e (List.mem_filter.1 he).1
theorem nm_mod {E : List En} (h : NmW E) (f : List UInt8) (g : En → En) (hg : ∀ e, (g e).n = e.n) : NmW (emod E f g) := by
 intro e he
 obtain ⟨y, hy, rfl⟩ := List.mem_map.1 he
 split
 ·rw [hg]; exact h y hy
 ·exact h y hy
theorem remove_w {s : St} {room : Int} (h : Stl s room) {n : Nat} {t : List UInt8} (hb : n ≤ 999999999999) (hc : contW s.E n = some t) :
  ∃ s', removeS s (fileW n) = (0, s') ∧ Stl s' room ∧ ∀ m, m ≤ 999999999999 → contW s'.E m = if m = n then none else contW s.E m := by
 refine ⟨⟨edel s.E (fileW n), s.room, -1, false⟩, ?_, ⟨rfl, rfl, h.room, ris_edel h.ris _, nm_del h.nm _⟩, fun m hm => ?_⟩
 ·unfold removeS
  rw [onFile_still h.off h.fuse]
  unfold contW bytesE at hc
  cases hg : eget s.E (fileW n) with
  | none => rw [hg] at hc; cases hc
  | some e => simp only
 ·unfold contW
  rw [bytes_edel]
  by_cases hmn : m = n
  ·rw [if_pos (by rw [hmn]), if_pos hmn]
  ·rw [if_neg (fun e => hmn (fileW_inj hm hb e)), if_neg hmn]
theorem cutF_bytes (k : Nat) (f : En) : (cutF k f).d ++ (cutF k f).l = (f.d ++ f.l).take k := by
 unfold cutF
 split
 ·rename_i h
  rw [List.append_nil, List.take_append_of_le_length h]
 ·rename_i h
  simp only
  rw [List.take_append, show f.d.take k = f.d from List.take_of_length_le (by omega)]
theorem cut_w {s : St} {room : Int} (h : Stl s room) {n k : Nat} {t : List UInt8} (hb : n ≤ 999999999999) (hc : contW s.E n = some t) (hk : k ≤ t.length) :
  ∃ s', cutS s (fileW n) k = (0, s') ∧ Stl s' room ∧ ∀ m, m ≤ 999999999999 → contW s'.E m = if m = n then some (t.take k) else contW s.E m := by
 refine ⟨⟨emod s.E (fileW n) (cutF k), s.room, -1, false⟩, ?_, ⟨rfl, rfl, h.room, ris_emod h.ris _ _ (cutF_n k), nm_mod h.nm _ _ (cutF_n k)⟩, fun m hm => ?_⟩
 ·unfold contW bytesE at hc
  unfold cutS
  rw [h.off]
  simp only [Bool.false_eq_true, if_false]
  cases hg : eget s.E (fileW n) with
  | none => rw [hg] at hc; cases hc
  | some e =>
   rw [hg] at hc
   simp only [Option.map_some, Option.some.injEq] at hc
   have hl : e.d.length + e.l.length = t.length := by rw [← hc, List.length_append]
   simp only
   rw [if_neg (by rintro (h1 | h1); omega; omega), burn_still h.off h.fuse, h.off, h.fuse]
   simp
 ·unfold contW at hc ⊢
  unfold bytesE at hc ⊢
  rw [eget_emod s.E (fileW n) (cutF k) (cutF_n k)]
  by_cases hmn : m = n
  ·rw [if_pos (by rw [hmn]), if_pos hmn, hmn]
   cases hg : eget s.E (fileW n) with
   | none => rw [hg] at hc; cases hc
   | some e =>
    rw [hg] at hc
    simp only [Option.map_some, Option.some.injEq] at hc ⊢
    rw [cutF_bytes, hc]
  ·rw [if_neg (fun e => hmn (fileW_inj hm hb e)), if_neg hmn]
theorem weget_none (L : List Fil) (n : List UInt8) : eget (L.map Fil.en) n = none ↔ ∀ g ∈ L, g.n ≠ n := by
 unfold eget
 rw [List.find?_eq_none]
 constructor
 ·intro h g hg e
  have := h g.en (List.mem_map.2 ⟨g, hg, rfl⟩)
  simp [Fil.en, e] at this
 ·intro h y hy
  obtain ⟨g, hg, rfl⟩ := List.mem_map.1 hy
  simp [Fil.en, h g hg]
theorem wris_eins {x : En} {E : List En} (h : ERis E) (hg : eget E x.n = none) : ERis (eins x E) := by
 obtain ⟨L, hL⟩ : ∃ L : List Fil, L.map Fil.en = E := ⟨E.map fun e => ⟨e.n, 0, e.d, e.l⟩, by rw [List.map_map]; exact (List.map_congr_left fun e _ => rfl).trans (List.map_id _)⟩
 rw [← hL] at h hg ⊢
 have e : eins x (L.map Fil.en) = (fins ⟨x.n, 0, x.d, x.l⟩ L).map Fil.en := (fins_en ⟨x.n, 0, x.d, x.l⟩ L).symm
 rw [e]
 refine ris_en.2 (fins_ris (ris_en.1 h) fun g hgm => ?_)
 intro hn
 rw [weget_none] at hg
 exact hg g hgm hn
theorem wris_add {E : List En} (h : ERis E) (n b : List UInt8) : ERis (addE E n b) := by
 unfold addE
 cases hg : eget E n with
 | some f => exact ris_emod h n _ fun _ => rfl
 | none => exact wris_eins h hg
theorem append_w {s : St} {room : Int} (h : Stl s room) {n : Nat} (b : List UInt8) (hb : n ≤ 999999999999) (hroom : (usedE s.E : Int) + b.length ≤ room) :
  ∃ s', appendS s (fileW n) b = (0, s') ∧ Stl s' room ∧ usedE s'.E = usedE s.E + b.length ∧ ∀ m, m ≤ 999999999999 → contW s'.E m = if m = n then some ((contW s.E n).getD [] ++ b) else contW s.E m := by
 refine ⟨⟨addE s.E (fileW n) b, s.room, -1, false⟩, ?_, ⟨rfl, rfl, h.room, wris_add h.ris _ _, ?_⟩, used_add h.ris _ _, fun m hm => ?_⟩
 ·rw [append_still h.off h.fuse (fileW_right n), h.room, if_neg (by omega)]
 ·intro e he
  unfold addE at he
  cases hg : eget s.E (fileW n) with
  | some y =>
   rw [hg] at he
   exact nm_mod h.nm (fileW n) (fun f => ⟨f.n, f.d, f.l ++ b⟩) (fun _ => rfl) e he
  | none =>
   rw [hg] at he
   rcases eins_mem he with rfl | he
   ·exact ⟨n, hb, rfl⟩
   ·exact h.nm e he
 ·unfold contW
  rw [bytes_addE]
  by_cases hmn : m = n
  ·rw [if_pos (by rw [hmn]), if_pos hmn]
  ·rw [if_neg (fun e => hmn (fileW_inj hm hb e)), if_neg hmn]
theorem sync_w {s : St} {room : Int} (h : Stl s room) {n : Nat} {t : List UInt8} (hc : contW s.E n = some t) :
  ∃ s', syncS s (fileW n) = (0, s') ∧ Stl s' room ∧ usedE s'.E ≤ usedE s.E ∧ ∀ m, contW s'.E m = contW s.E m := by
 refine ⟨⟨emod s.E (fileW n) (fun f => ⟨f.n, f.d ++ f.l, []⟩), s.room, -1, false⟩, ?_, ⟨rfl, rfl, h.room, ris_emod h.ris _ _ fun _ => rfl, nm_mod h.nm _ _ fun _ => rfl⟩, used_emod _ _ _ fun f => by simp, fun m => bytes_sync _ _ _⟩
 unfold syncS
 rw [onFile_still h.off h.fuse]
 unfold contW bytesE at hc
 cases hg : eget s.E (fileW n) with
 | none => rw [hg] at hc; cases hc
 | some e => simp only
end Go.Proofs.YtnkbphecabnnaaaGreatDoor
namespace Go.Proofs.YtnkbphecabnnaaaGreatDoor
open Go.RowKit Go.Maps
set_option linter.unusedSimpArgs false
set_option linter.unusedVariables false

/-- What Open keeps of the segments behind the one that stands last. -/
def takeRun : Nat → List (Nat × List UInt8) → List (List UInt8)
 | _, [] => []
 | L, (n, v) :: r => if n = L + 1 then (if (recs v).2 = v.length then v :: takeRun n r else [v.take (recs v).2]) else []
def lastU (us : List (List UInt8)) : List UInt8 := us.getLast?.getD []
/-- Good contents: the first one has its beginning, the records stand from p on; each is read to its end. -/
structure GoodUs (p : Nat) (us : List (List UInt8)) : Prop where
 ne : us ≠ []
 hd : ∀ u, us.head? = some u → begB u = some p ∧ p + (recs (u.drop p)).2 = u.length
 tl : ∀ u ∈ us.tail, begB u = none ∧ (recs u).2 = u.length
def outW (p : Nat) (us : List (List UInt8)) : List Rc := match us with | [] => [] | u :: r => (recs (u.drop p)).1 ++ r.flatMap fun v => (recs v).1
theorem outW_snoc {p : Nat} {us : List (List UInt8)} (h : us ≠ []) (v : List UInt8) : outW p (us ++ [v]) = outW p us ++ (recs v).1 := by
 cases us with
 | nil => exact absurd rfl h
 | cons u r => simp [outW]
theorem lastU_snoc (us : List (List UInt8)) (v : List UInt8) : lastU (us ++ [v]) = v := by simp [lastU]
theorem GoodUs.snoc {p : Nat} {us : List (List UInt8)} (h : GoodUs p us) {v : List UInt8} (h1 : begB v = none) (h2 : (recs v).2 = v.length) : GoodUs p (us ++ [v]) := by
 refine ⟨by simp, fun u hu => h.hd u ?_, fun u hu => ?_⟩
 ·cases us with
  | nil => exact absurd rfl h.ne
  | cons x r => simpa using hu
 ·cases us with
  | nil => exact absurd rfl h.ne
  | cons x r =>
   simp only [List.cons_append, List.tail_cons, List.mem_append, List.mem_singleton] at hu
   rcases hu with hu | rfl
   ·exact h.tl u hu
   ·exact ⟨h1, h2⟩
/-- A log on a disk: its segments are f and those behind it. -/
structure LogE (E : List En) (f p : Nat) (us : List (List UInt8)) : Prop where
 f0 : 0 < f
 fb : f + us.length ≤ 1000000000000
 good : GoodUs p us
 cont : ∀ m, 0 < m → m ≤ 999999999999 → contW E m = if f ≤ m then us[m - f]? else none
theorem us_pos {p : Nat} {us : List (List UInt8)} (h : GoodUs p us) : 0 < us.length := by
 cases us with
 | nil => exact absurd rfl h.ne
 | cons x r => simp
/-- Those ahead of the first one are taken away. -/
theorem loop_ahead {room : Int} (first : Nat) (rest : List Nat) : ∀ (l : List Nat) (o : OpS), Stl o.s room → l.Nodup → (∀ n ∈ l, n < first ∧ n ≤ 999999999999 ∧ contW o.s.E n ≠ none) →
  ∃ s', opLoop first (l ++ rest) o = opLoop first rest ⟨o.whole, o.last, o.size, o.out, s'⟩ ∧ Stl s' room ∧ ∀ m, m ≤ 999999999999 → contW s'.E m = if m ∈ l then none else contW o.s.E m
 | [], o, h, _, _ => ⟨o.s, by rw [List.nil_append], h, fun m _ => by simp⟩
 | n :: r, o, h, hn, hc => by
  obtain ⟨hn1, hn2⟩ := List.nodup_cons.1 hn
  obtain ⟨hlt, hb, hne⟩ := hc n (by simp)
  obtain ⟨t, ht⟩ := Option.ne_none_iff_exists'.1 hne
  obtain ⟨s1, e1, h1, c1⟩ := remove_w h hb ht
  have hst : opStep first n o = (0, ⟨o.whole, o.last, o.size, o.out, s1⟩) := by
   unfold opStep
   rw [if_pos (show goneW first n o from .inl hlt), e1, decide_eq_true hlt, Bool.and_true]
  obtain ⟨s', e2, h2, c2⟩ := loop_ahead first rest r ⟨o.whole, o.last, o.size, o.out, s1⟩ h1 hn2 (fun m hm => by
   obtain ⟨q0, q1, q2⟩ := hc m (by simp [hm])
   refine ⟨q0, q1, ?_⟩
   show contW s1.E m ≠ none
   rw [c1 m q1, if_neg (by rintro rfl; exact hn1 hm)]
   exact q2)
  refine ⟨s', ?_, h2, fun m hm => ?_⟩
  ·rw [List.cons_append, opLoop, hst]
   simp only
   rw [if_neg (by simp), e2]
  ·rw [c2 m hm]
   simp only [c1 m hm, List.mem_cons]
   by_cases h3 : m ∈ r
   ·rw [if_pos h3, if_pos (.inr h3)]
   ·rw [if_neg h3]
    by_cases h4 : m = n
    ·rw [if_pos h4, if_pos (.inl h4)]
    ·rw [if_neg h4, if_neg (by rintro (h | h); exact h4 h; exact h3 h)]
/-- Those behind it. -/
theorem loop_behind {room : Int} (first p : Nat) (c : Nat → List UInt8) (hf : 0 < first) : ∀ (post : List Nat) (o : OpS) (us : List (List UInt8)), Stl o.s room → post.Pairwise (· < ·) →
  (∀ n ∈ post, o.last < n ∧ n ≤ 999999999999 ∧ contW o.s.E n = some (c n) ∧ begB (c n) = none) → GoodUs p us → o.last + 1 = first + us.length → o.last ≤ 999999999999 →
  (∀ m, 0 < m → m ≤ 999999999999 → m ∉ post → contW o.s.E m = if first ≤ m then us[m - first]? else none) → o.out = outW p us → o.size = (lastU us).length →
  ∃ wh s' us', us' = us ++ (if o.whole then takeRun o.last (post.map fun n => (n, c n)) else []) ∧ opLoop first post o = (0, ⟨wh, first + us'.length - 1, (lastU us').length, outW p us', s'⟩) ∧ Stl s' room ∧ LogE s'.E first p us'
 | [], o, us, h, _, _, hg, hl, hlb, hc, ho, hz => by
  have hp := us_pos hg
  refine ⟨o.whole, o.s, us, by cases o.whole <;> simp [takeRun], ?_, h, ⟨hf, by omega, hg, fun m h0 hm => hc m h0 hm (by simp)⟩⟩
  unfold opLoop
  rw [← ho, ← hz, ← show o.last = first + us.length - 1 by omega]
 | n :: r, o, us, h, hpw, hn, hg, hl, hlb, hc, ho, hz => by
  have hp := us_pos hg
  obtain ⟨hpn, hpr⟩ := List.pairwise_cons.1 hpw
  obtain ⟨hln, hb, hcn, hbn⟩ := hn n (by simp)
  have hnr : n ∉ r := fun hm => by have := hpn n hm; omega
  have htx := textW_is h hcn
  by_cases hgo : goneW first n o
  ·-- taken away
   obtain ⟨s1, e1, h1, c1⟩ := remove_w h hb hcn
   have hst : opStep first n o = (0, ⟨false, o.last, o.size, o.out, s1⟩) := by
    unfold opStep
    rw [if_pos hgo, e1, decide_eq_false (by omega), Bool.and_false]
   obtain ⟨wh, s', us', hu, e2, h2, l2⟩ := loop_behind first p c hf r ⟨false, o.last, o.size, o.out, s1⟩ us h1 hpr (fun m hm => by
    obtain ⟨q0, q1, q2, q3⟩ := hn m (by simp [hm])
    refine ⟨q0, q1, ?_, q3⟩
    show contW s1.E m = _
    rw [c1 m q1, if_neg (by rintro rfl; exact hnr hm)]
    exact q2) hg hl hlb (fun m h0 hm hnm => by
    show contW s1.E m = _
    rw [c1 m hm]
    by_cases hmn : m = n
    ·rw [if_pos hmn, if_pos (by omega), List.getElem?_eq_none (by omega)]
    ·rw [if_neg hmn]
     exact hc m h0 hm (by simp [hmn, hnm])) ho hz
   simp only [Bool.false_eq_true, if_false, List.append_nil] at hu
   refine ⟨wh, s', us', ?_, ?_, h2, l2⟩
   ·rw [hu]
    cases hw : o.whole with
    | false => simp
    | true =>
     have : ¬ n = o.last + 1 := by
      rcases hgo with h3 | h3 | h3
      ·omega
      ·rw [hw] at h3; cases h3
      ·exact h3.1
     simp only [if_true, List.map_cons, takeRun]
     rw [if_neg this, List.append_nil]
   ·rw [opLoop, hst]
    simp only
    rw [if_neg (by simp), e2]
  ·have hw : o.whole = true := by
    cases hw : o.whole with
    | true => rfl
    | false => exact absurd (.inr (.inl hw)) hgo
   have hnl : n = o.last + 1 := by
    by_cases h3 : n = o.last + 1
    ·exact h3
    ·exact absurd (.inr (.inr ⟨h3, by omega⟩)) hgo
   have hfr : fromW first n (c n) = 0 := by unfold fromW; rw [if_neg (by omega)]
   have hle := (recs_le (c n)).1
   have hidx : n - first = us.length := by omega
   by_cases hcut : (recs (c n)).2 < (c n).length
   ·obtain ⟨s1, e1, h1, c1⟩ := cut_w h hb hcn (Nat.le_of_lt hcut)
    have hst : opStep first n o = (0, ⟨false, n, (recs (c n)).2, o.out ++ (recs (c n)).1, s1⟩) := by
     unfold opStep
     rw [if_neg hgo, htx]
     simp only
     rw [hfr, List.drop_zero, Nat.zero_add, if_pos hcut, e1]
    have hv1 := begB_read hbn
    have hv2 : (recs ((c n).take (recs (c n)).2)).2 = ((c n).take (recs (c n)).2).length := by rw [recs_take, List.length_take]; omega
    obtain ⟨wh, s', us', hu, e2, h2, l2⟩ := loop_behind first p c hf r ⟨false, n, (recs (c n)).2, o.out ++ (recs (c n)).1, s1⟩ (us ++ [(c n).take (recs (c n)).2]) h1 hpr (fun m hm => by
     obtain ⟨q0, q1, q2, q3⟩ := hn m (by simp [hm])
     refine ⟨hpn m hm, q1, ?_, q3⟩
     show contW s1.E m = _
     rw [c1 m q1, if_neg (by rintro rfl; exact hnr hm)]
     exact q2) (hg.snoc hv1 hv2) (by show n + 1 = _; rw [List.length_append, List.length_singleton]; omega) hb (fun m h0 hm hnm => by
     show contW s1.E m = _
     rw [c1 m hm]
     by_cases hmn : m = n
     ·rw [if_pos hmn, if_pos (by omega), hmn, hidx, List.getElem?_append_right (Nat.le_refl _)]
      simp
     ·rw [if_neg hmn, hc m h0 hm (by simp [hmn, hnm])]
      by_cases h3 : first ≤ m
      ·rw [if_pos h3, if_pos h3]
       by_cases h4 : m - first < us.length
       ·rw [List.getElem?_append_left h4]
       ·rw [List.getElem?_eq_none (by omega), List.getElem?_eq_none (by rw [List.length_append, List.length_singleton]; omega)]
      ·rw [if_neg h3, if_neg h3]) (by
     show o.out ++ _ = _
     rw [outW_snoc hg.ne, ho, recs_take]) (by
     show (recs (c n)).2 = _
     rw [lastU_snoc, List.length_take]
     omega)
    simp only [Bool.false_eq_true, if_false, List.append_nil] at hu
    refine ⟨wh, s', us', ?_, ?_, h2, l2⟩
    ·rw [hu, hw]
     simp only [if_true, List.map_cons, takeRun]
     rw [if_pos hnl, if_neg (by omega)]
    ·rw [opLoop, hst]
     simp only
     rw [if_neg (by simp), e2]
   ·have hfull : (recs (c n)).2 = (c n).length := by omega
    have hst : opStep first n o = (0, ⟨o.whole, n, (recs (c n)).2, o.out ++ (recs (c n)).1, o.s⟩) := by
     unfold opStep
     rw [if_neg hgo, htx]
     simp only
     rw [hfr, List.drop_zero, Nat.zero_add, if_neg hcut]
    obtain ⟨wh, s', us', hu, e2, h2, l2⟩ := loop_behind first p c hf r ⟨o.whole, n, (recs (c n)).2, o.out ++ (recs (c n)).1, o.s⟩ (us ++ [c n]) h hpr (fun m hm => by
     obtain ⟨q0, q1, q2, q3⟩ := hn m (by simp [hm])
     exact ⟨hpn m hm, q1, q2, q3⟩) (hg.snoc hbn hfull) (by show n + 1 = _; rw [List.length_append, List.length_singleton]; omega) hb (fun m h0 hm hnm => by
     show contW o.s.E m = _
     by_cases hmn : m = n
     ·rw [if_pos (by omega), hmn, hidx, List.getElem?_append_right (Nat.le_refl _), hcn]
      simp
     ·rw [hc m h0 hm (by simp [hmn, hnm])]
      by_cases h3 : first ≤ m
      ·rw [if_pos h3, if_pos h3]
       by_cases h4 : m - first < us.length
       ·rw [List.getElem?_append_left h4]
       ·rw [List.getElem?_eq_none (by omega), List.getElem?_eq_none (by rw [List.length_append, List.length_singleton]; omega)]
      ·rw [if_neg h3, if_neg h3]) (by
     show o.out ++ _ = _
     rw [outW_snoc hg.ne, ho]) (by
     show (recs (c n)).2 = _
     rw [lastU_snoc, hfull])
    simp only [hw, if_true] at hu
    refine ⟨wh, s', us', ?_, ?_, h2, l2⟩
    ·rw [hu, hw]
     simp only [if_true, List.map_cons, takeRun]
     rw [if_pos hnl, if_pos hfull]
     simp
    ·rw [opLoop, hst]
     simp only
     rw [if_neg (by simp), e2]
end Go.Proofs.YtnkbphecabnnaaaGreatDoor
namespace Go.Proofs.YtnkbphecabnnaaaGreatDoor
open Go.RowKit Go.Maps
set_option linter.unusedSimpArgs false
set_option linter.unusedVariables false

theorem fold_keep (g : Nat → Option Nat) : ∀ (l : List Nat) (a : Nat), (∀ n ∈ l, g n = none) → l.foldl (fun a n => if g n = none then a else n) a = a
  | [], a, _ => rfl
  | x :: r, a, h => by
    rw [List.foldl_cons, if_pos (h x (by simp))]
    exact fold_keep g r a fun n hn => h n (by simp [hn])
theorem seg_cont {s : St} {room : Int} (h : Stl s room) {n : Nat} (h0 : 0 < n) (hb : n ≤ 999999999999) (hn : n ∉ segS s) : contW s.E n = none := by
  cases hc : contW s.E n with
  | none => rfl
  | some t => exact absurd ((segS_mem h n).2 ⟨h0, hb, by rw [hc]; simp⟩) hn
theorem open_some {s : St} {room : Int} (h : Stl s room) {pre post : List Nat} {n0 : Nat} (hs : segS s = pre ++ n0 :: post) (c : Nat → List UInt8) (hc : ∀ n ∈ segS s, contW s.E n = some (c n)) {p : Nat} (hp : begB (c n0) = some p) (hq : ∀ n ∈ post, begB (c n) = none) :
    ∃ s' us', us' = (c n0).take (p + (recs ((c n0).drop p)).2) :: (if p + (recs ((c n0).drop p)).2 = (c n0).length then takeRun n0 (post.map fun n => (n, c n)) else []) ∧
      openS s = (0, ⟨n0, (n0 + us'.length - 1 : Nat), (lastU us').length, false⟩, outW p us', s') ∧ Stl s' room ∧ LogE s'.E n0 p us' := by
  have hrise := segS_rise h
  have hin : ∀ n, n ∈ segS s ↔ n ∈ pre ∨ n = n0 ∨ n ∈ post := fun n => by rw [hs]; simp
  rw [hs] at hrise
  obtain ⟨hpre, hrest, hcross⟩ := List.pairwise_append.1 hrise
  obtain ⟨hn0, hpost⟩ := List.pairwise_cons.1 hrest
  have htx : ∀ n ∈ segS s, textW s n = c n := fun n hn => textW_is h (hc n hn)
  have hm0 := (segS_mem h n0).1 ((hin n0).2 (.inr (.inl rfl)))
  have hf : firstS s (segS s) = n0 := by
    unfold firstS
    rw [hs, List.foldl_append, List.foldl_cons, if_neg (by rw [htx n0 ((hin n0).2 (.inr (.inl rfl))), hp]; simp)]
    exact fold_keep (fun n => begB (textW s n)) _ _ fun n hn => by rw [htx n ((hin n).2 (.inr (.inr hn)))]; exact hq n hn
  have ho : opFirst s = ⟨true, 0, 0, [], s⟩ := by unfold opFirst; rw [hf, decide_eq_true hm0.1]
  obtain ⟨s1, e1, h1, c1⟩ := loop_ahead (room := room) n0 (n0 :: post) pre ⟨true, 0, 0, [], s⟩ h (hpre.imp fun hab => Nat.ne_of_lt hab) (fun n hn => by
    have := (segS_mem h n).1 ((hin n).2 (.inl hn))
    exact ⟨hcross n hn n0 (by simp), this.2.1, this.2.2⟩)
  have hnpre : n0 ∉ pre := fun hm => by have := hcross n0 hm n0 (by simp); omega
  have hc0 : contW s1.E n0 = some (c n0) := by
    rw [c1 n0 hm0.2.1, if_neg hnpre]
    exact hc n0 ((hin n0).2 (.inr (.inl rfl)))
  have htx0 := textW_is h1 hc0
  have hgo : ¬ goneW n0 n0 ⟨true, 0, 0, [], s1⟩ := by
    unfold goneW
    rintro (h3 | h3 | h3)
    · omega
    · cases h3
    · exact h3.2 rfl
  have hfr : fromW n0 n0 (c n0) = p := by unfold fromW; rw [if_pos rfl, begV_some hp]
  obtain ⟨i, hb1, hb2⟩ := begB_some hp
  have hbl := frB_len hb1
  have hle := (recs_le ((c n0).drop p)).1
  rw [List.length_drop] at hle
  obtain ⟨e, he⟩ : ∃ e, e = p + (recs ((c n0).drop p)).2 := ⟨_, rfl⟩
  have hel : e ≤ (c n0).length := by omega
  have hk := begB_keep hp
  rw [← he] at hk
  have hgood : GoodUs p [(c n0).take e] := by
    refine ⟨by simp, fun u hu => ?_, by simp⟩
    simp only [List.head?_cons, Option.some.injEq] at hu
    subst hu
    refine ⟨hk.1, ?_⟩
    rw [hk.2, recs_take, List.length_take]
    omega
  have hout : outW p [(c n0).take e] = (recs ((c n0).drop p)).1 := by
    simp only [outW, List.flatMap_nil, List.append_nil]
    rw [hk.2, recs_take]
  -- the step of the first one
  have hstep : ∃ s2, opStep n0 n0 ⟨true, 0, 0, [], s1⟩ = (0, ⟨decide (e = (c n0).length), n0, e, outW p [(c n0).take e], s2⟩) ∧ Stl s2 room ∧ ∀ m, m ≤ 999999999999 → contW s2.E m = if m = n0 then some ((c n0).take e) else contW s1.E m := by
    by_cases hcut : e < (c n0).length
    · obtain ⟨s2, e2, h2, c2⟩ := cut_w h1 hm0.2.1 hc0 (Nat.le_of_lt hcut)
      refine ⟨s2, ?_, h2, c2⟩
      unfold opStep
      rw [if_neg hgo, htx0]
      simp only
      rw [hfr, ← he, if_pos hcut, e2, decide_eq_false (by omega), hout]
      simp
    · refine ⟨s1, ?_, h1, fun m hm => ?_⟩
      · unfold opStep
        rw [if_neg hgo, htx0]
        simp only
        rw [hfr, ← he, if_neg hcut, decide_eq_true (by omega), hout]
        simp
      · by_cases hmn : m = n0
        · rw [if_pos hmn, hmn, hc0, List.take_of_length_le (by omega)]
        · rw [if_neg hmn]
  obtain ⟨s2, e2, h2, c2⟩ := hstep
  obtain ⟨wh, s', us', hu, e3, h3, l3⟩ := loop_behind (room := room) n0 p c hm0.1 post ⟨decide (e = (c n0).length), n0, e, outW p [(c n0).take e], s2⟩ [(c n0).take e] h2 hpost (fun n hn => by
    have hns := (hin n).2 (.inr (.inr hn))
    have hnm := (segS_mem h n).1 hns
    have hlt := hn0 n hn
    refine ⟨hlt, hnm.2.1, ?_, hq n hn⟩
    show contW s2.E n = _
    rw [c2 n hnm.2.1, if_neg (by omega), c1 n hnm.2.1, if_neg (fun hm => by have := hcross n hm n0 (by simp); omega)]
    exact hc n hns) hgood (by show n0 + 1 = _; simp) hm0.2.1 (fun m hm1 hm hnm => by
    show contW s2.E m = _
    rw [c2 m hm]
    by_cases hmn : m = n0
    · rw [if_pos hmn, if_pos (by omega), hmn, Nat.sub_self]
      rfl
    · rw [if_neg hmn, c1 m hm]
      have hnone : contW s.E m = none ∨ m ∈ pre := by
        by_cases hmp : m ∈ pre
        · exact .inr hmp
        · exact .inl (seg_cont h hm1 hm fun hms => by
            rcases (hin m).1 hms with h4 | h4 | h4
            · exact hmp h4
            · exact hmn h4
            · exact hnm h4)
      have hl : (if m ∈ pre then none else contW s.E m) = none := by
        rcases hnone with h4 | h4
        · rw [h4]; split <;> rfl
        · rw [if_pos h4]
      rw [hl]
      by_cases h4 : n0 ≤ m
      · rw [if_pos h4, List.getElem?_eq_none (by simp; omega)]
      · rw [if_neg h4]) rfl (by show e = _; simp [lastU]; omega)
  refine ⟨s', us', ?_, ?_, h3, l3⟩
  · rw [hu, ← he]
    by_cases h4 : e = (c n0).length
    · simp [h4]
    · simp [h4]
  · unfold openS
    rw [h.off, hf, ho, hs, e1]
    simp only
    rw [opLoop, e2]
    simp only
    rw [if_neg (by simp), e3]
    simp
end Go.Proofs.YtnkbphecabnnaaaGreatDoor
namespace Go.Proofs.YtnkbphecabnnaaaGreatDoor
open Go.RowKit Go.Maps
set_option linter.unusedSimpArgs false
set_option linter.unusedVariables false

theorem loop_same {room : Int} (first p : Nat) (us : List (List UInt8)) (hg : GoodUs p us) (s : St) (h : Stl s room) (hf : 0 < first) (hfb : first + us.length ≤ 1000000000000)
  (hc : ∀ m, 0 < m → m ≤ 999999999999 → contW s.E m = if first ≤ m then us[m - first]? else none) : ∀ (post : List Nat) (last : Nat), post.Pairwise (· < ·) → (∀ n, n ∈ post ↔ last < n ∧ n < first + us.length) → first ≤ last → last < first + us.length →
  opLoop first post ⟨true, last, (lastU (us.take (last + 1 - first))).length, outW p (us.take (last + 1 - first)), s⟩ = (0, ⟨true, first + us.length - 1, (lastU us).length, outW p us, s⟩)
 | [], last, _, hm, h1, h2 => by
  have : ¬ (last < last + 1 ∧ last + 1 < first + us.length) := fun hx => by have := (hm (last + 1)).2 hx; simp at this
  have e : last = first + us.length - 1 := by omega
  unfold opLoop
  rw [List.take_of_length_le (by omega), ← e]
 | n :: r, last, hp, hm, h1, h2 => by
  obtain ⟨hpn, hpr⟩ := List.pairwise_cons.1 hp
  obtain ⟨hn1, hn2⟩ := (hm n).1 (by simp)
  have hnl : n = last + 1 := by
   have := (hm (last + 1)).2 ⟨by omega, by omega⟩
   rcases List.mem_cons.1 this with h3 | h3
   ·exact h3.symm
   ·have := hpn _ h3; omega
  obtain ⟨v, hv⟩ : ∃ v, us[n - first]? = some v := ⟨_, List.getElem?_eq_getElem (by omega)⟩
  have hcn : contW s.E n = some v := by rw [hc n (by omega) (by omega), if_pos (by omega), hv]
  have hvt : v ∈ us.tail := by
   cases us with
   | nil => simp at hv
   | cons x q =>
    obtain ⟨j, hj⟩ : ∃ j, n - first = j + 1 := ⟨n - first - 1, by omega⟩
    rw [hj, List.getElem?_cons_succ] at hv
    exact List.mem_of_getElem? hv
  obtain ⟨hv1, hv2⟩ := hg.tl v hvt
  have hfr : fromW first n v = 0 := by unfold fromW; rw [if_neg (by omega)]
  have htk : us.take (n + 1 - first) = us.take (last + 1 - first) ++ [v] := by
   rw [show n + 1 - first = (last + 1 - first) + 1 by omega, List.take_add_one, show last + 1 - first = n - first by omega, hv]
   rfl
  have hst : opStep first n ⟨true, last, (lastU (us.take (last + 1 - first))).length, outW p (us.take (last + 1 - first)), s⟩ = (0, ⟨true, n, (lastU (us.take (n + 1 - first))).length, outW p (us.take (n + 1 - first)), s⟩) := by
   unfold opStep
   rw [if_neg (by
    unfold goneW
    rintro (h3 | h3 | h3)
    ·omega
    ·cases h3
    ·exact h3.1 hnl)]
   simp only
   rw [textW_is h hcn, hfr, List.drop_zero, Nat.zero_add, if_neg (by omega), htk, lastU_snoc, outW_snoc (by
    intro e
    have he := congrArg List.length e
    rw [List.length_take] at he
    have hup := us_pos hg
    simp only [List.length_nil] at he
    omega), hv2]
  rw [opLoop, hst]
  simp only
  rw [if_neg (by simp)]
  exact loop_same first p us hg s h hf hfb hc r n hpr (fun m => by
   constructor
   ·intro hmr
    exact ⟨hpn m hmr, ((hm m).1 (by simp [hmr])).2⟩
   ·rintro ⟨q1, q2⟩
    have := (hm m).2 ⟨by omega, q2⟩
    rcases List.mem_cons.1 this with h3 | h3
    ·omega
    ·exact h3) (by omega) hn2
/-- Open of a good log leaves it as it is. -/
theorem open_same {s : St} {room : Int} (h : Stl s room) {f p : Nat} {us : List (List UInt8)} (hl : LogE s.E f p us) : openS s = (0, ⟨f, (f + us.length - 1 : Nat), (lastU us).length, false⟩, outW p us, s) := by
 have hpos := us_pos hl.good
 have hm : ∀ n, n ∈ segS s ↔ f ≤ n ∧ n < f + us.length := fun n => by
  rw [segS_mem h]
  constructor
  ·rintro ⟨h0, hb, hc⟩
   rw [hl.cont n h0 hb] at hc
   by_cases h3 : f ≤ n
   ·rw [if_pos h3] at hc
    refine ⟨h3, ?_⟩
    by_cases h4 : n - f < us.length
    ·omega
    ·exact absurd (List.getElem?_eq_none (by omega)) hc
   ·rw [if_neg h3] at hc
    exact absurd rfl hc
  ·rintro ⟨h1, h2⟩
   have := hl.f0
   have := hl.fb
   refine ⟨by omega, by omega, ?_⟩
   rw [hl.cont n (by omega) (by omega), if_pos h1, List.getElem?_eq_getElem (by omega)]
   simp
 have hrise := segS_rise h
 obtain ⟨l, hl2⟩ : ∃ l, l = segS s := ⟨_, rfl⟩
 rw [← hl2] at hm hrise
 cases l with
 | nil => have := (hm f).2 ⟨Nat.le_refl _, by omega⟩; simp at this
 | cons n r =>
  obtain ⟨hpn, hpr⟩ := List.pairwise_cons.1 hrise
  have hnf : n = f := by
   have h1 := (hm n).1 (by simp)
   have h2 := (hm f).2 ⟨Nat.le_refl _, by omega⟩
   rcases List.mem_cons.1 h2 with h3 | h3
   ·exact h3.symm
   ·have := hpn _ h3; omega
  subst hnf
  obtain ⟨u0, hu0⟩ : ∃ u0, us[0]? = some u0 := ⟨_, List.getElem?_eq_getElem hpos⟩
  have hh : us.head? = some u0 := by rw [List.head?_eq_getElem?]; exact hu0
  obtain ⟨hb0, hfull⟩ := hl.good.hd u0 hh
  have hf0 := hl.f0
  have hfb := hl.fb
  have hc0 : contW s.E n = some u0 := by rw [hl.cont n hf0 (by omega), if_pos (Nat.le_refl _), Nat.sub_self, hu0]
  have hfirst : firstS s (segS s) = n := by
   unfold firstS
   rw [← hl2, List.foldl_cons, if_neg (by rw [textW_is h hc0, hb0]; simp)]
   refine fold_keep (fun n => begB (textW s n)) _ _ fun m hmr => ?_
   obtain ⟨q1, q2⟩ := (hm m).1 (by simp [hmr])
   have q3 := hpn m hmr
   obtain ⟨v, hv⟩ : ∃ v, us[m - n]? = some v := ⟨_, List.getElem?_eq_getElem (by omega)⟩
   have hcm : contW s.E m = some v := by rw [hl.cont m (by omega) (by omega), if_pos q1, hv]
   show begB (textW s m) = none
   rw [textW_is h hcm]
   have hvt : v ∈ us.tail := by
    cases us with
    | nil => simp at hv
    | cons x q =>
     obtain ⟨j, hj⟩ : ∃ j, m - n = j + 1 := ⟨m - n - 1, by omega⟩
     rw [hj, List.getElem?_cons_succ] at hv
     exact List.mem_of_getElem? hv
   exact (hl.good.tl v hvt).1
  have ho : opFirst s = ⟨true, 0, 0, [], s⟩ := by unfold opFirst; rw [hfirst, decide_eq_true hf0]
  have htake : us.take (n + 1 - n) = [u0] := by
   rw [show n + 1 - n = 0 + 1 by omega, List.take_add_one, hu0]
   rfl
  have hst : opStep n n ⟨true, 0, 0, [], s⟩ = (0, ⟨true, n, (lastU (us.take (n + 1 - n))).length, outW p (us.take (n + 1 - n)), s⟩) := by
   unfold opStep
   rw [if_neg (by
    unfold goneW
    rintro (h3 | h3 | h3)
    ·omega
    ·cases h3
    ·exact h3.2 rfl)]
   simp only
   rw [textW_is h hc0, show fromW n n u0 = p by unfold fromW; rw [if_pos rfl, begV_some hb0], if_neg (by omega), htake, hfull]
   simp [lastU, outW]
  unfold openS
  rw [h.off, hfirst, ho, ← hl2, opLoop, hst]
  simp only
  rw [if_neg (by simp : ¬ ((0 : Int) ≠ 0)), loop_same n p us hl.good s h hf0 hfb hl.cont r n hpr (fun m => by
   constructor
   ·intro hmr
    exact ⟨hpn m hmr, ((hm m).1 (by simp [hmr])).2⟩
   ·rintro ⟨q1, q2⟩
    have := (hm m).2 ⟨by omega, q2⟩
    rcases List.mem_cons.1 this with h3 | h3
    ·omega
    ·exact h3) (Nat.le_refl _) (by omega)]
  simp
/-! ### putting to a good log -/
theorem recs_frames {l : List Rc} (h : ∀ r ∈ l, rightRc r = true) : recs (framesB l) = (l, (framesB l).length) := by
 have := recs_back h []
 simpa [recs_nil] using this
theorem begB_frames {l : List Rc} (h : ∀ r ∈ l, rightRc r = true) : begB (framesB l) = none := by
 cases l with
 | nil => rfl
 | cons r q =>
  have hr := h r (by simp)
  have e : framesB (r :: q) = frameB r ++ framesB q := by simp [framesB]
  rw [e]
  exact begB_right (fr_back (rightRc_ok hr).1 _) hr
theorem good_add {p : Nat} {us : List (List UInt8)} {x : List UInt8} (hg : GoodUs p (us ++ [x])) {l : List Rc} (h : ∀ r ∈ l, rightRc r = true) :
  GoodUs p (us ++ [x ++ framesB l]) ∧ outW p (us ++ [x ++ framesB l]) = outW p (us ++ [x]) ++ l := by
 have hr := recs_frames h
 cases us with
 | nil =>
  obtain ⟨h1, h2⟩ := hg.hd x rfl
  obtain ⟨i, hb1, hb2⟩ := begB_some h1
  have hbl := frB_len hb1
  have hfull : (recs (x.drop p)).2 = (x.drop p).length := by rw [List.length_drop]; omega
  have hd : (x ++ framesB l).drop p = x.drop p ++ framesB l := List.drop_append_of_le_length hbl.2.1
  have ha := recs_app (v := framesB l) hfull
  rw [hr] at ha
  refine ⟨⟨by simp, fun u hu => ?_, by simp⟩, ?_⟩
  ·simp only [List.nil_append, List.head?_cons, Option.some.injEq] at hu
   subst hu
   refine ⟨begB_of (i := i) (frB_app hb1) ?_, ?_⟩
   ·rw [hd, ha]
    simp only [List.length_append]
    omega
   ·rw [hd, ha, List.length_append, List.length_drop]
    simp only
    omega
  ·simp only [outW, List.nil_append, List.flatMap_nil, List.append_nil]
   rw [hd, ha]
 | cons u0 q =>
  obtain ⟨h1, h2⟩ := hg.tl x (by simp)
  have ha := recs_app (v := framesB l) h2
  rw [hr] at ha
  have hb : begB (x ++ framesB l) = none := by
   cases hf : frB x with
   | none =>
    rw [recs_none hf] at h2
    have hx : x = [] := List.eq_nil_of_length_eq_zero h2.symm
    rw [hx, List.nil_append]
    exact begB_frames h
   | some y =>
    obtain ⟨r, n⟩ := y
    have hbl := frB_len hf
    by_cases hrr : rightRc r = true
    ·exact begB_right (frB_app hf) hrr
    ·rw [recs_some hf, if_neg hrr] at h2
     simp only at h2
     omega
  refine ⟨⟨by simp, fun u hu => hg.hd u (by simpa using hu), fun u hu => ?_⟩, ?_⟩
  ·simp only [List.cons_append, List.tail_cons, List.mem_append, List.mem_singleton] at hu
   rcases hu with hu | rfl
   ·exact hg.tl u (by simp [hu])
   ·exact ⟨hb, by rw [ha, List.length_append]⟩
  ·simp only [outW, List.cons_append, List.flatMap_append, List.flatMap_cons, List.flatMap_nil, List.append_nil]
   rw [ha]
   simp
theorem good_new {p : Nat} {us : List (List UInt8)} (hg : GoodUs p us) {l : List Rc} (h : ∀ r ∈ l, rightRc r = true) : GoodUs p (us ++ [framesB l]) ∧ outW p (us ++ [framesB l]) = outW p us ++ l := by
 have hr := recs_frames h
 refine ⟨hg.snoc (begB_frames h) (by rw [hr]), ?_⟩
 rw [outW_snoc hg.ne, hr]
theorem us_split {p : Nat} {us : List (List UInt8)} (h : GoodUs p us) : us = us.dropLast ++ [lastU us] := by
 have := List.dropLast_concat_getLast h.ne
 unfold lastU
 rw [List.getLast?_eq_some_getLast h.ne]
 exact this.symm
/-- Records are put behind the last segment. -/
theorem put_last {s : St} {room : Int} (h : Stl s room) {f p : Nat} {us : List (List UInt8)} (hl : LogE s.E f p us) {l : List Rc} (hr : ∀ r ∈ l, rightRc r = true) (hroom : (usedE s.E : Int) + (framesB l).length ≤ room) :
  ∃ s' us', appendS s (fileW (f + us.length - 1)) (framesB l) = (0, s') ∧ Stl s' room ∧ LogE s'.E f p us' ∧ outW p us' = outW p us ++ l ∧ us'.length = us.length ∧ (lastU us').length = (lastU us).length + (framesB l).length ∧ usedE s'.E = usedE s.E + (framesB l).length := by
 have hpos := us_pos hl.good
 have hsp := us_split hl.good
 have hf0 := hl.f0
 have hfb := hl.fb
 have hln : us.dropLast.length = us.length - 1 := by simp
 obtain ⟨s', e1, h1, u1, c1⟩ := append_w h (n := f + us.length - 1) (framesB l) (by omega) hroom
 have hg := hl.good
 rw [hsp] at hg
 obtain ⟨g1, g2⟩ := good_add hg hr
 rw [← hsp] at g2
 have hlast : contW s.E (f + us.length - 1) = some (lastU us) := by
  rw [hl.cont _ (by omega) (by omega), if_pos (by omega), show f + us.length - 1 - f = us.dropLast.length by omega]
  conv => lhs; rw [hsp]
  rw [List.getElem?_append_right (by simp)]
  simp
 refine ⟨s', us.dropLast ++ [lastU us ++ framesB l], e1, h1, ⟨hf0, by rw [List.length_append, List.length_singleton]; omega, g1, fun m h0 hm => ?_⟩, g2, by rw [List.length_append, List.length_singleton]; omega, by rw [lastU_snoc, List.length_append], u1⟩
 rw [c1 m hm]
 by_cases hmn : m = f + us.length - 1
 ·rw [if_pos hmn, hlast, if_pos (by omega), show m - f = us.dropLast.length by omega, List.getElem?_append_right (Nat.le_refl _)]
  simp
 ·rw [if_neg hmn, hl.cont m h0 hm]
  by_cases h3 : f ≤ m
  ·rw [if_pos h3, if_pos h3]
   by_cases h4 : m - f < us.dropLast.length
   ·conv => lhs; rw [hsp]
    rw [List.getElem?_append_left h4, List.getElem?_append_left h4]
   ·rw [List.getElem?_eq_none (by omega), List.getElem?_eq_none (by rw [List.length_append, List.length_singleton]; omega)]
  ·rw [if_neg h3, if_neg h3]
/-- Records are put to a new segment. -/
theorem put_new {s : St} {room : Int} (h : Stl s room) {f p : Nat} {us : List (List UInt8)} (hl : LogE s.E f p us) {l : List Rc} (hr : ∀ r ∈ l, rightRc r = true) (hb : f + us.length ≤ 999999999999) (hroom : (usedE s.E : Int) + (framesB l).length ≤ room) :
  ∃ s', appendS s (fileW (f + us.length)) (framesB l) = (0, s') ∧ Stl s' room ∧ LogE s'.E f p (us ++ [framesB l]) ∧ outW p (us ++ [framesB l]) = outW p us ++ l ∧ usedE s'.E = usedE s.E + (framesB l).length := by
 have hpos := us_pos hl.good
 have hf0 := hl.f0
 obtain ⟨s', e1, h1, u1, c1⟩ := append_w h (n := f + us.length) (framesB l) hb hroom
 obtain ⟨g1, g2⟩ := good_new hl.good hr
 have hnew : contW s.E (f + us.length) = none := by
  rw [hl.cont _ (by omega) hb, if_pos (by omega), List.getElem?_eq_none (by omega)]
 refine ⟨s', e1, h1, ⟨hf0, by rw [List.length_append, List.length_singleton]; omega, g1, fun m h0 hm => ?_⟩, g2, u1⟩
 rw [c1 m hm]
 by_cases hmn : m = f + us.length
 ·rw [if_pos hmn, hnew, if_pos (by omega), show m - f = us.length by omega, List.getElem?_append_right (Nat.le_refl _)]
  simp
 ·rw [if_neg hmn, hl.cont m h0 hm]
  by_cases h3 : f ≤ m
  ·rw [if_pos h3, if_pos h3]
   by_cases h4 : m - f < us.length
   ·rw [List.getElem?_append_left h4]
   ·rw [List.getElem?_eq_none (by omega), List.getElem?_eq_none (by rw [List.length_append, List.length_singleton]; omega)]
  ·rw [if_neg h3, if_neg h3]
end Go.Proofs.YtnkbphecabnnaaaGreatDoor
namespace Go.Proofs.YtnkbphecabnnaaaGreatDoor
open Go.RowKit Go.Maps
set_option linter.unusedSimpArgs false
set_option linter.unusedVariables false

/-- A disk without segments has no log. -/
theorem open_empty {s : St} {room : Int} (h : Stl s room) (hc : ∀ m, 0 < m → m ≤ 999999999999 → contW s.E m = none) : openS s = (0, ⟨0, 0, 0, false⟩, [], s) := by
  have hs : segS s = [] := by
    cases hl : segS s with
    | nil => rfl
    | cons n r =>
      have := (segS_mem h n).1 (by rw [hl]; simp)
      exact absurd (hc n this.1 this.2.1) this.2.2
  unfold openS
  rw [h.off, hs]
  simp only [Bool.false_eq_true, if_false]
  have hf : firstS s [] = 0 := rfl
  rw [hf]
  unfold opLoop opFirst
  rw [hs]
  simp
end Go.Proofs.YtnkbphecabnnaaaGreatDoor
namespace Go.Proofs.YtnkbphecabnnaaaGreatDoor
open Go.RowKit Go.Maps
set_option linter.unusedSimpArgs false
set_option linter.unusedVariables false

/-- Synced segments, from f on. -/
def wholeE : Nat → List (List UInt8) → List En
 | _, [] => []
 | f, u :: r => ⟨fileW f, u, []⟩ :: wholeE (f + 1) r
/-- .. and the last one: x is synced, y is not. -/
def logE (f : Nat) (us : List (List UInt8)) (x y : List UInt8) : List En := wholeE f us ++ [⟨fileW (f + us.length), x, y⟩]
theorem logE_cons (f : Nat) (u : List UInt8) (us : List (List UInt8)) (x y : List UInt8) : logE f (u :: us) x y = ⟨fileW f, u, []⟩ :: logE (f + 1) us x y := by
 unfold logE
 rw [wholeE, List.cons_append, List.length_cons, show f + (us.length + 1) = f + 1 + us.length by omega]
theorem logE_nil (f : Nat) (x y : List UInt8) : logE f [] x y = [⟨fileW f, x, y⟩] := rfl
theorem wholeE_snoc (x : List UInt8) : ∀ (us : List (List UInt8)) (f : Nat), wholeE f (us ++ [x]) = wholeE f us ++ [⟨fileW (f + us.length), x, []⟩]
 | [], f => rfl
 | u :: r, f => by
  rw [List.cons_append, wholeE, wholeE, wholeE_snoc x r (f + 1), List.length_cons, show f + 1 + r.length = f + (r.length + 1) by omega]
  rfl
theorem logE_mem : ∀ (us : List (List UInt8)) (f : Nat) (x y : List UInt8) (e : En), e ∈ logE f us x y → ∃ i, f ≤ i ∧ i ≤ f + us.length ∧ e.n = fileW i
 | [], f, x, y, e, h => by
  rw [logE_nil] at h
  simp only [List.mem_singleton] at h
  exact ⟨f, Nat.le_refl _, Nat.le_add_right _ _, by rw [h]⟩
 | u :: r, f, x, y, e, h => by
  rw [logE_cons] at h
  rcases List.mem_cons.1 h with rfl | h
  ·exact ⟨f, Nat.le_refl _, Nat.le_add_right _ _, rfl⟩
  ·obtain ⟨i, h1, h2, h3⟩ := logE_mem r (f + 1) x y e h
   exact ⟨i, by omega, by simp only [List.length_cons]; omega, h3⟩
theorem logE_ris : ∀ (us : List (List UInt8)) (f : Nat) (x y : List UInt8), f + us.length ≤ 999999999999 → ERis (logE f us x y)
 | [], f, x, y, _ => by rw [logE_nil]; simp [ERis]
 | u :: r, f, x, y, h => by
  simp only [List.length_cons] at h
  rw [logE_cons]
  refine List.pairwise_cons.2 ⟨fun e he => ?_, logE_ris r (f + 1) x y (by omega)⟩
  obtain ⟨i, h1, h2, h3⟩ := logE_mem r (f + 1) x y e he
  rw [h3]
  exact fileW_before (by omega) (by omega)
theorem logE_nm {us : List (List UInt8)} {f : Nat} {x y : List UInt8} (h : f + us.length ≤ 999999999999) : NmW (logE f us x y) := by
 intro e he
 obtain ⟨i, _, h2, h3⟩ := logE_mem us f x y e he
 exact ⟨i, by omega, h3⟩
def sumL (us : List (List UInt8)) : Nat := (us.map List.length).sum
theorem logE_used : ∀ (us : List (List UInt8)) (f : Nat) (x y : List UInt8), usedE (logE f us x y) = sumL us + (x.length + y.length)
 | [], f, x, y => by rw [logE_nil]; simp [usedE, sumL]
 | u :: r, f, x, y => by
  rw [logE_cons, used_cons, logE_used r]
  simp [sumL]
  omega
theorem logE_get : ∀ (us : List (List UInt8)) (f : Nat) (x y : List UInt8), f + us.length ≤ 999999999999 → eget (logE f us x y) (fileW (f + us.length)) = some ⟨fileW (f + us.length), x, y⟩
 | [], f, x, y, _ => by rw [logE_nil, eget_cons]; exact if_pos rfl
 | u :: r, f, x, y, h => by
  simp only [List.length_cons] at h
  have ih := logE_get r (f + 1) x y (by omega)
  rw [show f + 1 + r.length = f + (r.length + 1) by omega] at ih
  rw [logE_cons, eget_cons, List.length_cons, if_neg (fun e => by have := fileW_inj (by omega) (by omega) e; omega), ih]
theorem logE_none {us : List (List UInt8)} {f : Nat} {x y : List UInt8} (h : f + us.length + 1 ≤ 999999999999) : eget (logE f us x y) (fileW (f + us.length + 1)) = none := by
 unfold eget
 rw [List.find?_eq_none]
 intro e he
 obtain ⟨i, _, h2, h3⟩ := logE_mem us f x y e he
 rw [h3]
 simp only [beq_iff_eq]
 intro e
 have := fileW_inj (by omega) (by omega) e
 omega
theorem logE_mod {us : List (List UInt8)} {f : Nat} {x y : List UInt8} (h : f + us.length ≤ 999999999999) (g : En → En) : emod (logE f us x y) (fileW (f + us.length)) g = wholeE f us ++ [g ⟨fileW (f + us.length), x, y⟩] :=
 emod_mid (A := wholeE f us) (B := []) (f := ⟨fileW (f + us.length), x, y⟩) (logE_ris us f x y h) g
theorem eins_last {x : En} : ∀ {E : List En}, (∀ e ∈ E, bytesBefore x.n e.n = false) → eins x E = E ++ [x]
 | [], _ => rfl
 | y :: r, h => by
  unfold eins
  rw [h y (by simp), if_neg (by simp), eins_last fun e he => h e (by simp [he])]
  rfl
theorem logE_put {us : List (List UInt8)} {f : Nat} {x y : List UInt8} (h : f + us.length ≤ 999999999999) (b : List UInt8) : addE (logE f us x y) (fileW (f + us.length)) b = logE f us x (y ++ b) := by
 unfold addE
 rw [logE_get us f x y h]
 simp only
 rw [logE_mod h]
 rfl
theorem logE_new {us : List (List UInt8)} {f : Nat} {x : List UInt8} (h : f + us.length + 1 ≤ 999999999999) (b : List UInt8) : addE (logE f us x []) (fileW (f + us.length + 1)) b = logE f (us ++ [x]) [] b := by
 unfold addE
 rw [logE_none h]
 simp only
 rw [eins_last]
 ·unfold logE
  rw [wholeE_snoc, List.length_append, List.length_singleton]
  rfl
 ·intro e he
  obtain ⟨i, _, h2, h3⟩ := logE_mem us f x [] e he
  rw [h3]
  cases hb : bytesBefore (fileW (f + us.length + 1)) (fileW i) with
  | false => rfl
  | true => have := fileW_lt h hb; omega
def fuse1 (n : Int) : Int := if 0 < n then n - 1 else n
theorem sync_log {us : List (List UInt8)} {f : Nat} {x y : List UInt8} (h : f + us.length ≤ 999999999999) (room fu : Int) :
  syncS ⟨logE f us x y, room, fu, false⟩ (fileW (f + us.length)) = if fu = 0 then (7, ⟨logE f us x y, room, 0, true⟩) else (0, ⟨logE f us (x ++ y) [], room, fuse1 fu, false⟩) := by
 unfold syncS onFile
 simp only [Bool.false_eq_true, if_false]
 rw [logE_get us f x y h]
 simp only [St.burn, Bool.false_or, decide_eq_true_eq]
 by_cases h0 : fu = 0
 ·subst h0; simp
 ·rw [if_neg h0, if_neg h0, logE_mod h, decide_eq_false h0]
  rfl
theorem append_log {us : List (List UInt8)} {f : Nat} {x y : List UInt8} (h : f + us.length ≤ 999999999999) (room fu : Int) (b : List UInt8) (hr : ((sumL us + (x.length + y.length) : Nat) : Int) + b.length ≤ room) :
  appendS ⟨logE f us x y, room, fu, false⟩ (fileW (f + us.length)) b = if fu = 0 then (7, ⟨logE f us x y, room, 0, true⟩) else (0, ⟨logE f us x (y ++ b), room, fuse1 fu, false⟩) := by
 unfold appendS
 simp only [Bool.false_eq_true, if_false]
 rw [fileW_right, if_neg (by simp), logE_used, if_neg (by omega)]
 simp only [St.burn, Bool.false_or, decide_eq_true_eq]
 by_cases h0 : fu = 0
 ·subst h0; simp
 ·rw [if_neg h0, if_neg h0, logE_put h, decide_eq_false h0]
  rfl
theorem append_new {us : List (List UInt8)} {f : Nat} {x : List UInt8} (h : f + us.length + 1 ≤ 999999999999) (room fu : Int) (b : List UInt8) (hr : ((sumL us + x.length : Nat) : Int) + b.length ≤ room) :
  appendS ⟨logE f us x [], room, fu, false⟩ (fileW (f + us.length + 1)) b = if fu = 0 then (7, ⟨logE f us x [], room, 0, true⟩) else (0, ⟨logE f (us ++ [x]) [] b, room, fuse1 fu, false⟩) := by
 unfold appendS
 simp only [Bool.false_eq_true, if_false]
 rw [fileW_right, if_neg (by simp), logE_used, if_neg (by simp only [List.length_nil]; omega)]
 simp only [St.burn, Bool.false_or, decide_eq_true_eq]
 by_cases h0 : fu = 0
 ·subst h0; simp
 ·rw [if_neg h0, if_neg h0, logE_new h, decide_eq_false h0]
  rfl
theorem crash_log (keep : List Int) : ∀ (us : List (List UInt8)) (f : Nat) (x y : List UInt8), ∃ k, crashE keep 0 (logE f us x y) = logE f us (x ++ y.take k) []
 | [], f, x, y => by
  rw [logE_nil]
  show ∃ k, [crashF keep 0 ⟨fileW f, x, y⟩] = _
  unfold crashF
  by_cases hy : y = []
  ·exact ⟨0, by rw [if_pos hy, hy]; simp [logE_nil]⟩
  ·rw [if_neg hy]
   by_cases hk : keep = []
   ·exact ⟨0, by rw [if_pos hk]; simp [logE_nil]⟩
   ·exact ⟨keepK keep 0 y.length, by rw [if_neg hk]; rfl⟩
 | u :: r, f, x, y => by
  obtain ⟨k, hk⟩ := crash_log keep r (f + 1) x y
  refine ⟨k, ?_⟩
  rw [logE_cons, logE_cons, crashE, ← hk]
  simp [crashF]
/-! ### the records of a log's segments -/
def head0 : List UInt8 := frameB (headRc 0)
def preW (Rs : List (List Rc)) : List UInt8 := if Rs = [] then head0 else []
def textsW : List (List Rc) → List (List UInt8)
 | [] => []
 | r :: q => (head0 ++ framesB r) :: q.map framesB
theorem frames_app (a b : List Rc) : framesB (a ++ b) = framesB a ++ framesB b := by simp [framesB]
/-- A log of which the records R were put, of which sure ones are synced. -/
structure CrIs (R : List Rc) (sure : Nat) (E : List En) (Rs : List (List Rc)) (A B : List Rc) : Prop where
 e : E = logE 1 (textsW Rs) (preW Rs ++ framesB A) (framesB B)
 all : R = Rs.flatten ++ A ++ B
 sure : sure ≤ Rs.flatten.length + A.length
 right : ∀ r ∈ R, rightRc r = true
 len : Rs.length ≤ R.length
theorem head0_len : head0.length ≤ 53 := by
 unfold head0
 rw [frame_len]
 have := pay_len (r := headRc 0) ⟨by decide, by decide, by decide, by decide, by decide⟩
 have e : (headRc 0).dt.length = 0 := rfl
 omega
theorem framesB_len {n : Nat} : ∀ {l : List Rc}, (∀ r ∈ l, rightRc r = true ∧ r.dt.length ≤ n) → (framesB l).length ≤ l.length * (n + 53)
 | [], _ => by simp [framesB]
 | r :: q, h => by
  have ih := framesB_len (l := q) fun x hx => h x (by simp [hx])
  have hr := h r (by simp)
  have := pay_len (rightRc_ok hr.1).1
  rw [show framesB (r :: q) = frameB r ++ framesB q by simp [framesB], List.length_append, frame_len, List.length_cons, Nat.add_mul]
  omega
theorem sumL_texts : ∀ (Rs : List (List Rc)) (A B : List Rc), sumL (textsW Rs) + ((preW Rs ++ framesB A).length + (framesB B).length) = head0.length + (framesB (Rs.flatten ++ A ++ B)).length := by
 have key : ∀ q : List (List Rc), sumL (q.map framesB) = (framesB q.flatten).length := by
  intro q
  induction q with
  | nil => simp [sumL, framesB]
  | cons x y ih =>
   unfold sumL at ih ⊢
   rw [List.map_cons, List.map_cons, List.sum_cons, ih, List.flatten_cons, frames_app, List.length_append]
 intro Rs A B
 cases Rs with
 | nil => simp [textsW, sumL, preW, frames_app]; omega
 | cons r q =>
  have := key q
  unfold sumL at this ⊢
  simp only [textsW, List.map_cons, List.sum_cons, this, preW, List.flatten_cons, frames_app, List.length_append]
  simp
  omega
theorem CrIs.used {R : List Rc} {sure : Nat} {E : List En} {Rs : List (List Rc)} {A B : List Rc} (h : CrIs R sure E Rs A B) : sumL (textsW Rs) + ((preW Rs ++ framesB A).length + (framesB B).length) = head0.length + (framesB R).length := by
 rw [sumL_texts, ← h.all]
/-! ### and Open behind a crash -/
theorem segs_log : ∀ (us : List (List UInt8)) (f : Nat) (x y : List UInt8), 0 < f → f + us.length ≤ 999999999999 → (((logE f us x y).map En.n).map numW).filter (fun n => decide (0 < n)) = List.range' f (us.length + 1)
 | [], f, x, y, h0, h => by
  rw [logE_nil]
  simp only [List.map_cons, List.map_nil]
  rw [numW_file (by simpa using h)]
  simp [h0]
 | u :: r, f, x, y, h0, h => by
  simp only [List.length_cons] at h
  rw [logE_cons, List.map_cons, List.map_cons, List.filter_cons, segs_log r (f + 1) x y (by omega) (by omega)]
  simp only
  rw [numW_file (by omega), if_pos (by simpa using h0), List.length_cons, List.range'_succ (n := r.length + 1)]
theorem cont_log : ∀ (us : List (List UInt8)) (f : Nat) (x y : List UInt8), f + us.length ≤ 999999999999 → ∀ i, i < us.length + 1 → contW (logE f us x y) (f + i) = (us ++ [x ++ y])[i]?
 | [], f, x, y, h, i, hi => by
  have : i = 0 := by simp at hi; exact hi
  subst this
  rw [logE_nil]
  unfold contW bytesE
  rw [eget_cons, Nat.add_zero, if_pos rfl]
  rfl
 | u :: r, f, x, y, h, i, hi => by
  simp only [List.length_cons] at h hi
  rw [logE_cons]
  cases i with
  | zero =>
   unfold contW bytesE
   rw [eget_cons, Nat.add_zero, if_pos rfl]
   simp
  | succ j =>
   have ih := cont_log r (f + 1) x y (by omega) j (by omega)
   rw [List.cons_append, List.getElem?_cons_succ, ← ih]
   unfold contW bytesE
   rw [eget_cons, if_neg (fun e => by have := fileW_inj (by omega) (by omega) e; omega), show f + (j + 1) = f + 1 + j by omega]
theorem begB_head0 (t : List UInt8) : begB (head0 ++ t) = some head0.length := by
 have h := fr_back (r := headRc 0) ⟨by decide, by decide, by decide, by decide, by decide⟩ t
 exact begB_of (i := 0) h (by omega)
end Go.Proofs.YtnkbphecabnnaaaGreatDoor
namespace Go.Proofs.YtnkbphecabnnaaaGreatDoor
open Go.RowKit Go.Maps
set_option linter.unusedSimpArgs false
set_option linter.unusedVariables false

theorem open_used (s : St) : usedE (openS s).2.2.2.E ≤ usedE s.E := by
 have h1 : ∀ (o : St) (f : List UInt8), usedE (removeS o f).2.E ≤ usedE o.E := by
  intro o f
  unfold removeS onFile
  split
  ·exact Nat.le_refl _
  ·split
   ·exact Nat.le_refl _
   ·split
    ·exact Nat.le_refl _
    ·exact used_edel _ _
 have h2 : ∀ (o : St) (f : List UInt8) (k : Int), usedE (cutS o f k).2.E ≤ usedE o.E := by
  intro o f k
  unfold cutS
  split
  ·exact Nat.le_refl _
  ·split
   ·exact Nat.le_refl _
   ·split
    ·exact Nat.le_refl _
    ·split
     ·exact Nat.le_refl _
     ·exact used_emod _ _ _ fun f => cutF_le _ f
 have h3 : ∀ (first n : Nat) (o : OpS), usedE (opStep first n o).2.s.E ≤ usedE o.s.E := by
  intro first n o
  unfold opStep
  split
  ·exact h1 _ _
  ·simp only
   split
   ·exact h2 _ _ _
   ·exact Nat.le_refl _
 have h4 : ∀ (first : Nat) (l : List Nat) (o : OpS), usedE (opLoop first l o).2.s.E ≤ usedE o.s.E := by
  intro first l
  induction l with
  | nil => intro o; exact Nat.le_refl _
  | cons n r ih =>
   intro o
   rw [opLoop]
   split
   ·exact h3 first n o
   ·exact Nat.le_trans (ih _) (h3 first n o)
 unfold openS
 split
 ·exact Nat.le_refl _
 ·simp only
  split
  ·exact h4 _ _ _
  ·exact h4 _ _ _
theorem open_ok {s : St} {k : Nat} (h : Ok6 s k) : Ok6 (openS s).2.2.2 k := by
 have h3 : ∀ (first n : Nat) (o : OpS), Ok6 o.s k → Ok6 (opStep first n o).2.s k := by
  intro first n o h
  unfold opStep
  split
  ·exact ok_remove h _
  ·simp only
   split
   ·exact ok_cut h _ _
   ·exact h
 have h4 : ∀ (first : Nat) (l : List Nat) (o : OpS), Ok6 o.s k → Ok6 (opLoop first l o).2.s k := by
  intro first l
  induction l with
  | nil => intro o h; exact h
  | cons n r ih =>
   intro o h
   rw [opLoop]
   split
   ·exact h3 first n o h
   ·exact ih _ (h3 first n o h)
 unfold openS
 split
 ·exact h
 ·simp only
  split
  ·exact h4 _ _ _ h
  ·exact h4 _ _ _ h
/-! ### a good log is put to, synced and opened -/
abbrev wlOf (f : Nat) (us : List (List UInt8)) : Wl := ⟨f, (f + us.length - 1 : Nat), (lastU us).length, false⟩
theorem LogE.last {E : List En} {f p : Nat} {us : List (List UInt8)} (h : LogE E f p us) : contW E (f + us.length - 1) = some (lastU us) := by
 have hpos := us_pos h.good
 have hsp := us_split h.good
 have hf0 := h.f0
 have hfb := h.fb
 have hln : us.dropLast.length = us.length - 1 := by simp
 rw [h.cont _ (by omega) (by omega), if_pos (by omega), show f + us.length - 1 - f = us.dropLast.length by omega]
 conv => lhs; rw [hsp]
 rw [List.getElem?_append_right (by simp)]
 simp
theorem log_append {s : St} {room : Int} (h : Stl s room) {f p : Nat} {us : List (List UInt8)} (hl : LogE s.E f p us) {l : List Rc} (hr : ∀ r ∈ l, rightRc r = true) (hb : f + us.length ≤ 1000000) (hroom : (usedE s.E : Int) + (framesB l).length ≤ room) :
  ∃ s' us', appendW (wlOf f us) l s = (0, wlOf f us', s') ∧ Stl s' room ∧ LogE s'.E f p us' ∧ outW p us' = outW p us ++ l := by
 have hpos := us_pos hl.good
 have hf0 := hl.f0
 have hall : (l.all rightRc) = true := List.all_eq_true.2 hr
 unfold appendW wlOf
 simp only [Bool.false_eq_true, if_false]
 rw [hall, if_neg (by simp; omega)]
 by_cases h0 : l = []
 ·rw [if_pos h0]
  exact ⟨s, us, rfl, h, hl, by rw [h0, List.append_nil]⟩
 ·rw [if_neg h0]
  have hn : ((f + us.length - 1 : Nat) : Int).toNat = f + us.length - 1 := by omega
  by_cases hz : (2048 : Int) ≤ ((lastU us).length : Int)
  ·obtain ⟨s1, e1, h1, u1, c1⟩ := sync_w h hl.last
   rw [if_pos hz, if_neg (by omega), hn, e1]
   simp only
   rw [if_neg (by simp)]
   have hl1 : LogE s1.E f p us := ⟨hl.f0, hl.fb, hl.good, fun m a b => by rw [c1 m]; exact hl.cont m a b⟩
   obtain ⟨s2, e2, h2, l2, o2, _⟩ := put_new h1 hl1 hr (by omega) (by omega)
   unfold putW
   rw [show (((f + us.length - 1 : Nat) : Int) + 1).toNat = f + us.length by omega, e2]
   simp only
   rw [if_neg (by simp)]
   refine ⟨s2, us ++ [framesB l], ?_, h2, l2, o2⟩
   rw [lastU_snoc, List.length_append, List.length_singleton]
   simp only [Prod.mk.injEq, true_and, and_true, Wl.mk.injEq]
   omega
  ·rw [if_neg hz]
   unfold putW
   simp only
   obtain ⟨s2, us2, e2, h2, l2, o2, n2, z2, _⟩ := put_last h hl hr hroom
   rw [hn, e2]
   simp only
   rw [if_neg (by simp)]
   refine ⟨s2, us2, ?_, h2, l2, o2⟩
   rw [n2, z2]
   simp
theorem log_sync {s : St} {room : Int} (h : Stl s room) {f p : Nat} {us : List (List UInt8)} (hl : LogE s.E f p us) : ∃ s', syncW (wlOf f us) s = (0, wlOf f us, s') ∧ Stl s' room ∧ LogE s'.E f p us := by
 have hpos := us_pos hl.good
 have hf0 := hl.f0
 obtain ⟨s1, e1, h1, u1, c1⟩ := sync_w h hl.last
 unfold syncW wlOf
 simp only [Bool.false_eq_true, if_false]
 rw [if_neg (by omega), show ((f + us.length - 1 : Nat) : Int).toNat = f + us.length - 1 by omega, e1]
 exact ⟨s1, by simp [noteW], h1, ⟨hl.f0, hl.fb, hl.good, fun m a b => by rw [c1 m]; exact hl.cont m a b⟩⟩
/-- A log that was opened: its numbers are within bounds, and so are its disk's names. -/
def WlGood (w : Wl) (s : St) : Prop := (∃ f L z : Nat, w = ⟨f, L, z, false⟩ ∧ L ≤ 999999999999 ∧ z ≤ usedE s.E) ∧ NmW s.E
theorem wl_good {s : St} {room : Int} (h : Stl s room) {f p : Nat} {us : List (List UInt8)} (hl : LogE s.E f p us) : WlGood (wlOf f us) s := by
 have hz : (lastU us).length ≤ usedE s.E := by
  have h1 := hl.last
  unfold contW bytesE at h1
  cases hg : eget s.E (fileW (f + us.length - 1)) with
  | none => rw [hg] at h1; cases h1
  | some e =>
   rw [hg] at h1
   simp only [Option.map_some, Option.some.injEq] at h1
   have h2 := used_mem (eget_mem hg).1
   have h3 := congrArg List.length h1
   simp only [List.length_append] at h3
   omega
 exact ⟨⟨f, f + us.length - 1, (lastU us).length, rfl, by have := hl.fb; omega, hz⟩, h.nm⟩
/-- Append of l, Sync, Open: all went well, and l stands behind what was told. -/
def PutOk (w : Wl) (out l : List Rc) (s : St) : Prop := (appendW w l s).1 = 0 ∧ (syncW (appendW w l s).2.1 (appendW w l s).2.2).1 = 0 ∧
 (openS (syncW (appendW w l s).2.1 (appendW w l s).2.2).2.2).1 = 0 ∧ (openS (syncW (appendW w l s).2.1 (appendW w l s).2.2).2.2).2.2.1 = out ++ l ∧
 WlGood w s ∧ WlGood (appendW w l s).2.1 (appendW w l s).2.2 ∧ NmW (syncW (appendW w l s).2.1 (appendW w l s).2.2).2.2.E
theorem log_put {s : St} {room : Int} (h : Stl s room) {f p : Nat} {us : List (List UInt8)} (hl : LogE s.E f p us) {l : List Rc} (hr : ∀ r ∈ l, rightRc r = true) (hb : f + us.length ≤ 1000000) (hroom : (usedE s.E : Int) + (framesB l).length ≤ room) : PutOk (wlOf f us) (outW p us) l s := by
 obtain ⟨s1, us1, e1, h1, l1, o1⟩ := log_append h hl hr hb hroom
 obtain ⟨s2, e2, h2, l2⟩ := log_sync h1 l1
 unfold PutOk
 rw [e1]
 simp only
 rw [e2]
 simp only
 rw [open_same h2 l2]
 exact ⟨trivial, trivial, rfl, o1, wl_good h hl, wl_good h1 l1, h2.nm⟩
/-! ### a new log -/
def begW (m : List Rc) : List UInt8 := frameB (headRc m.length) ++ framesB m
theorem headRc_ok {n : Nat} (h : n ≤ 1099511627776) : OkRc (headRc n) := ⟨by show (1 : Int) ≤ 1 ∧ (1 : Int) ≤ 4; omega, ⟨by show (0 : Int) ≤ (n : Int); omega, by show (n : Int) ≤ _; omega⟩, by show (0 : Int) ≤ 0 ∧ (0 : Int) ≤ 1099511627776; omega, by show (0 : Int) ≤ 0 ∧ (0 : Int) ≤ 1099511627776; omega, by show 0 ≤ 131072; omega⟩
theorem open_new (room : Int) : openS (newS room) = (0, ⟨0, 0, 0, false⟩, [], newS room) :=
 open_empty (room := room) ⟨rfl, rfl, rfl, by simp [newS, ERis], by intro e he; simp [newS] at he⟩ (by intro m _ _; simp [contW, bytesE, eget, newS])
theorem start_first {m : List Rc} (hm : ∀ r ∈ m, rightRc r = true) {room : Int} (hr : ((begW m).length : Int) ≤ room) : startS ⟨0, 0, 0, false⟩ m (newS room) = (0, ⟨1, 1, (begW m).length, false⟩, ⟨logE 1 [] (begW m) [], room, -1, false⟩) := by
 have hall : (m.all rightRc) = true := List.all_eq_true.2 hm
 have e1 : appendS (newS room) (fileW 1) (begW m) = (0, ⟨logE 1 [] [] (begW m), room, -1, false⟩) := by
  unfold appendS newS
  simp only [Bool.false_eq_true, if_false]
  rw [fileW_right, if_neg (by simp), if_neg (by simp [usedE]; omega)]
  rfl
 have e2 := sync_log (us := []) (f := 1) (x := []) (y := begW m) (by decide) room (-1)
 rw [if_neg (by decide)] at e2
 simp only [List.length_nil, Nat.add_zero, List.nil_append] at e2
 unfold startS
 simp only [Bool.false_eq_true, if_false, hall]
 rw [if_neg (by simp), if_neg (by omega)]
 have hn : ((0 : Int) + 1).toNat = 1 := rfl
 rw [hn]
 simp only [show frameB (headRc m.length) ++ framesB m = begW m from rfl]
 rw [e1]
 simp only
 rw [if_neg (by simp), e2]
 simp only
 rw [if_neg (by simp)]
 simp [begW, fuse1]
/-- What a Start on a log of one segment leaves under a fuse, and whether it was done. -/
theorem start_next {X : List UInt8} {m : List Rc} (hm : ∀ r ∈ m, rightRc r = true) (z fu : Int) {room : Int} (hr : ((X.length + (begW m).length : Nat) : Int) ≤ room) :
  (startS ⟨1, 1, z, false⟩ m ⟨logE 1 [] X [], room, fu, false⟩).2.2.room = room ∧
  (((startS ⟨1, 1, z, false⟩ m ⟨logE 1 [] X [], room, fu, false⟩).1 ≠ 0 ∧ ((startS ⟨1, 1, z, false⟩ m ⟨logE 1 [] X [], room, fu, false⟩).2.2.E = logE 1 [] X [] ∨ (startS ⟨1, 1, z, false⟩ m ⟨logE 1 [] X [], room, fu, false⟩).2.2.E = logE 1 [X] [] (begW m) ∨
   (startS ⟨1, 1, z, false⟩ m ⟨logE 1 [] X [], room, fu, false⟩).2.2.E = logE 1 [X] (begW m) [])) ∨
  ((startS ⟨1, 1, z, false⟩ m ⟨logE 1 [] X [], room, fu, false⟩).1 = 0 ∧ (startS ⟨1, 1, z, false⟩ m ⟨logE 1 [] X [], room, fu, false⟩).2.2.E = logE 2 [] (begW m) [])) := by
 have hall : (m.all rightRc) = true := List.all_eq_true.2 hm
 have e1 := append_new (us := []) (f := 1) (x := X) (by decide) room fu (begW m) (by simp [sumL] at hr ⊢; omega)
 have e2 := sync_log (us := [X]) (f := 1) (x := []) (y := begW m) (by simp) room (fuse1 fu)
 simp only [List.length_nil, List.length_singleton, Nat.add_zero, List.nil_append, Nat.reduceAdd] at e1 e2
 have hS : startS ⟨1, 1, z, false⟩ m ⟨logE 1 [] X [], room, fu, false⟩ =
   (if fu = 0 then (7, noteW ⟨1, 1, z, false⟩ 7, ⟨logE 1 [] X [], room, 0, true⟩)
    else if fuse1 fu = 0 then (7, noteW ⟨1, 1, z, false⟩ 7, ⟨logE 1 [X] [] (begW m), room, 0, true⟩)
    else if fuse1 (fuse1 fu) = 0 then (7, noteW ⟨1, 1, z, false⟩ 7, ⟨logE 1 [X] (begW m) [], room, 0, true⟩)
    else (0, ⟨2, 2, (begW m).length, false⟩, ⟨logE 2 [] (begW m) [], room, fuse1 (fuse1 (fuse1 fu)), false⟩)) := by
  unfold startS
  simp only [Bool.false_eq_true, if_false, hall]
  rw [if_neg (by simp), if_neg (by omega)]
  have hn : ((1 : Int) + 1).toNat = 2 := rfl
  rw [hn]
  simp only [show frameB (headRc m.length) ++ framesB m = begW m from rfl]
  rw [e1]
  by_cases h0 : fu = 0
  ·rw [if_pos h0, if_pos h0]
   simp
  ·rw [if_neg h0, if_neg h0]
   simp only
   rw [if_neg (by simp), e2]
   by_cases h1 : fuse1 fu = 0
   ·rw [if_pos h1, if_pos h1]
    simp
   ·rw [if_neg h1, if_neg h1]
    simp only
    have h01 : (0 : Int) < 1 := by decide
    rw [if_neg (by simp)]
    simp only [h01, if_true]
    have hd : dropW (Int.toNat 1) (2 - Int.toNat 1) ⟨logE 1 [X] (begW m) [], room, fuse1 (fuse1 fu), false⟩ = if fuse1 (fuse1 fu) = 0 then (7, ⟨logE 1 [X] (begW m) [], room, 0, true⟩) else (0, ⟨logE 2 [] (begW m) [], room, fuse1 (fuse1 (fuse1 fu)), false⟩) := by
     have hr2 : removeS ⟨logE 1 [X] (begW m) [], room, fuse1 (fuse1 fu), false⟩ (fileW 1) = if fuse1 (fuse1 fu) = 0 then (7, ⟨logE 1 [X] (begW m) [], room, 0, true⟩) else (0, ⟨logE 2 [] (begW m) [], room, fuse1 (fuse1 (fuse1 fu)), false⟩) := by
      have hg : eget (logE 1 [X] (begW m) []) (fileW 1) = some ⟨fileW 1, X, []⟩ := by rw [logE_cons, eget_cons, if_pos rfl]
      have hdel : edel (logE 1 [X] (begW m) []) (fileW 1) = logE 2 [] (begW m) [] := by
       have := edel_mid (A := []) (B := logE 2 [] (begW m) []) (f := ⟨fileW 1, X, []⟩) (by have := logE_ris [X] 1 (begW m) [] (by simp); rw [logE_cons] at this; exact this)
       rw [logE_cons]
       exact this
      unfold removeS onFile
      simp only [Bool.false_eq_true, if_false]
      rw [hg]
      simp only [St.burn, Bool.false_or, decide_eq_true_eq]
      by_cases h2 : fuse1 (fuse1 fu) = 0
      ·rw [if_pos h2, if_pos h2, h2]
       simp
      ·rw [if_neg h2, if_neg h2, hdel, decide_eq_false h2]
       rfl
     show dropW 1 1 _ = _
     rw [dropW, hr2]
     by_cases h2 : fuse1 (fuse1 fu) = 0
     ·rw [if_pos h2]
      simp
     ·rw [if_neg h2]
      simp [dropW]
    rw [hd]
    by_cases h2 : fuse1 (fuse1 fu) = 0
    ·rw [if_pos h2, if_pos h2]
     simp
    ·rw [if_neg h2, if_neg h2]
     simp [begW]
 rw [hS]
 by_cases h0 : fu = 0
 ·rw [if_pos h0]; exact ⟨rfl, .inl ⟨by simp, .inl rfl⟩⟩
 ·rw [if_neg h0]
  by_cases h1 : fuse1 fu = 0
  ·rw [if_pos h1]; exact ⟨rfl, .inl ⟨by simp, .inr (.inl rfl)⟩⟩
  ·rw [if_neg h1]
   by_cases h2 : fuse1 (fuse1 fu) = 0
   ·rw [if_pos h2]; exact ⟨rfl, .inl ⟨by simp, .inr (.inr rfl)⟩⟩
   ·rw [if_neg h2]; exact ⟨rfl, .inr ⟨rfl, rfl⟩⟩
/-! ### Open behind it -/
theorem begB_beg {m : List Rc} (hm : ∀ r ∈ m, rightRc r = true) (hl : m.length ≤ 1000) : begB (begW m) = some (frameB (headRc m.length)).length := by
 have h := fr_back (r := headRc m.length) (headRc_ok (by omega)) (framesB m)
 refine begB_of (i := m.length) h ?_
 show (m.length : Int) ≤ ((recs ((frameB (headRc m.length) ++ framesB m).drop _)).1.length : Int)
 rw [List.drop_left, recs_frames hm]
 exact Int.le_refl _
theorem torn_few : ∀ {m : List Rc}, (∀ r ∈ m, rightRc r = true) → ∀ {k : Nat}, k < (framesB m).length → (recs ((framesB m).take k)).1.length < m.length
 | [], _, k, h => by simp [framesB] at h
 | r :: q, hm, k, h => by
  have hr := hm r (by simp)
  have e : framesB (r :: q) = frameB r ++ framesB q := by simp [framesB]
  have hfr := fr_back (rightRc_ok hr).1 (framesB q)
  rw [← e] at hfr
  by_cases hk : k < (frameB r).length
  ·rw [recs_none (frB_short (b := (framesB (r :: q)).drop k) (n := (frameB r).length) (r := r) (by rw [List.take_append_drop]; exact hfr) (by rw [List.length_take]; omega))]
   simp
  ·have e2 : (framesB (r :: q)).take k = framesB [r] ++ (framesB q).take (k - (frameB r).length) := by
    rw [e, List.take_append, List.take_of_length_le (by omega)]
    simp [framesB]
   rw [e, List.length_append] at h
   have ih := torn_few (m := q) (fun x hx => hm x (by simp [hx])) (k := k - (frameB r).length) (by omega)
   rw [e2, recs_back (by simpa using hr)]
   simp only [List.length_append, List.length_cons, List.length_nil]
   omega
theorem begB_cut {m : List Rc} (hm : ∀ r ∈ m, rightRc r = true) (hl : m.length ≤ 1000) {k : Nat} (hk : k < (begW m).length) : begB ((begW m).take k) = none ∧ recs ((begW m).take k) = ([], 0) := by
 have h := fr_back (r := headRc m.length) (headRc_ok (by omega)) (framesB m)
 have hw : begW m = (begW m).take k ++ (begW m).drop k := (List.take_append_drop k _).symm
 by_cases hh : k < (frameB (headRc m.length)).length
 ·have hn : frB ((begW m).take k) = none := by
   refine frB_short (b := (begW m).drop k) (n := (frameB (headRc m.length)).length) (r := headRc m.length) ?_ (by rw [List.length_take]; omega)
   rw [← hw]; exact h
  exact ⟨begB_none hn, recs_none hn⟩
 ·have hs : frB ((begW m).take k) = some (headRc m.length, (frameB (headRc m.length)).length) := by
   refine frB_cut (b := (begW m).drop k) ?_ (by rw [List.length_take]; omega)
   rw [← hw]; exact h
  constructor
  ·unfold begB
   rw [hs]
   simp only
   refine if_neg ?_
   rintro ⟨_, h2⟩
   have hd : ((begW m).take k).drop (frameB (headRc m.length)).length = (framesB m).take (k - (frameB (headRc m.length)).length) := by
    unfold begW
    rw [List.take_append, List.take_of_length_le (by omega), List.drop_left]
   rw [hd] at h2
   have hkl : k - (frameB (headRc m.length)).length < (framesB m).length := by unfold begW at hk; rw [List.length_append] at hk; omega
   have := torn_few hm hkl
   have h3 : (headRc m.length).i = (m.length : Int) := rfl
   omega
  ·rw [recs_some hs, if_neg (by simp [rightRc, headRc])]
/-- What is told behind the crash; and what is put then. -/
def StEnd (l m : List Rc) (done : Prop) (s : St) : Prop := (openS s).1 = 0 ∧ ((openS s).2.2.1 = m ∨ (¬ done ∧ (openS s).2.2.1 = l)) ∧ PutOk (openS s).2.1 (openS s).2.2.1 l (openS s).2.2.2
theorem log_one {f : Nat} (hf : 0 < f) (hfb : f ≤ 1000) {X : List UInt8} {p : Nat} {l0 l : List Rc} {room : Int} (hp : begB X = some p) (hx : recs (X.drop p) = (l0, X.length - p)) (hpl : p ≤ X.length) (hl : ∀ r ∈ l, rightRc r = true) (hr : ((X.length + (framesB l).length : Nat) : Int) ≤ room) :
  (openS ⟨logE f [] X [], room, -1, false⟩).1 = 0 ∧ (openS ⟨logE f [] X [], room, -1, false⟩).2.2.1 = l0 ∧ PutOk (openS ⟨logE f [] X [], room, -1, false⟩).2.1 (openS ⟨logE f [] X [], room, -1, false⟩).2.2.1 l (openS ⟨logE f [] X [], room, -1, false⟩).2.2.2 := by
 have hst : Stl ⟨logE f [] X [], room, -1, false⟩ room := ⟨rfl, rfl, rfl, logE_ris _ _ _ _ (by simp; omega), logE_nm (by simp; omega)⟩
 have hlog : LogE (logE f [] X []) f p [X] := by
  refine ⟨hf, by simp; omega, ⟨by simp, fun u hu => ?_, by simp⟩, fun m h0 hm => ?_⟩
  ·simp only [List.head?_cons, Option.some.injEq] at hu
   subst hu
   refine ⟨hp, ?_⟩
   rw [hx]
   simp only
   omega
  ·rw [logE_nil]
   unfold contW bytesE
   rw [eget_cons]
   by_cases hmf : m = f
   ·subst hmf
    rw [if_pos rfl, if_pos (Nat.le_refl _)]
    simp
   ·rw [if_neg (fun e => hmf (fileW_inj (by omega) (by omega) e).symm)]
    by_cases hfm : f ≤ m
    ·rw [if_pos hfm, List.getElem?_eq_none (by simp; omega)]
     rfl
    ·rw [if_neg hfm]; rfl
 have ho := open_same hst hlog
 have hout : outW p [X] = l0 := by simp [outW, hx]
 rw [ho]
 refine ⟨rfl, hout, ?_⟩
 refine log_put hst hlog hl (by simp; omega) ?_
 show ((usedE (logE f [] X []) : Int)) + _ ≤ _
 rw [logE_used]
 simp [sumL]
 omega
theorem starts_open {l m : List Rc} (hl : ∀ r ∈ l, rightRc r = true) (hm : ∀ r ∈ m, rightRc r = true) (hml : m.length ≤ 1000) {room : Int} (hr : (((head0 ++ framesB l).length + (begW m).length + (framesB l).length : Nat) : Int) ≤ room) (z fu : Int) (keep : List Int) :
  StEnd l m ((startS ⟨1, 1, z, false⟩ m ⟨logE 1 [] (head0 ++ framesB l) [], room, fu, false⟩).1 = 0) (crashS (startS ⟨1, 1, z, false⟩ m ⟨logE 1 [] (head0 ++ framesB l) [], room, fu, false⟩).2.2 keep) := by
 obtain ⟨X, hX⟩ : ∃ X, X = head0 ++ framesB l := ⟨_, rfl⟩
 rw [← hX] at hr ⊢
 obtain ⟨hroom, hcase⟩ := start_next (X := X) hm z fu (room := room) (by omega)
 have hXb : begB X = some head0.length := by rw [hX]; exact begB_head0 _
 have hXd : X.drop head0.length = framesB l := by rw [hX, List.drop_left]
 have hXl : X.length = head0.length + (framesB l).length := by rw [hX, List.length_append]
 have hXr : recs (X.drop head0.length) = (l, X.length - head0.length) := by rw [hXd, recs_frames hl, hXl]; simp
 have hBb := begB_beg hm hml
 have hBd : (begW m).drop (frameB (headRc m.length)).length = framesB m := by unfold begW; rw [List.drop_left]
 have hBl : (begW m).length = (frameB (headRc m.length)).length + (framesB m).length := by unfold begW; rw [List.length_append]
 have hBr : recs ((begW m).drop (frameB (headRc m.length)).length) = (m, (begW m).length - (frameB (headRc m.length)).length) := by rw [hBd, recs_frames hm, hBl]; simp
 -- two segments, the second one whole
 have key2 : ∀ (done : Prop), StEnd l m done ⟨logE 1 [X] (begW m) [], room, -1, false⟩ := by
  intro done
  have hst : Stl ⟨logE 1 [X] (begW m) [], room, -1, false⟩ room := ⟨rfl, rfl, rfl, logE_ris _ _ _ _ (by simp), logE_nm (by simp)⟩
  have hseg : segS ⟨logE 1 [X] (begW m) [], room, -1, false⟩ = [1] ++ 2 :: [] := by
   unfold segS namesS
   simp only [Bool.false_eq_true, if_false]
   rw [segs_log _ _ _ _ (by omega) (by simp)]
   rfl
  obtain ⟨c, hc⟩ : ∃ c : Nat → List UInt8, c = fun n => if n = 1 then X else begW m := ⟨_, rfl⟩
  have hcont : ∀ n ∈ segS ⟨logE 1 [X] (begW m) [], room, -1, false⟩, contW (logE 1 [X] (begW m) []) n = some (c n) := by
   intro n hn
   rw [hseg] at hn
   simp only [List.singleton_append, List.mem_cons, List.not_mem_nil, or_false] at hn
   rcases hn with rfl | rfl
   ·have := cont_log [X] 1 (begW m) [] (by simp) 0 (by simp)
    rw [hc]
    simpa using this
   ·have := cont_log [X] 1 (begW m) [] (by simp) 1 (by simp)
    rw [hc]
    simpa using this
  have hc2 : c 2 = begW m := by rw [hc]; rfl
  obtain ⟨s', us', hu, ho, h1, l1⟩ := open_some hst hseg c hcont (p := (frameB (headRc m.length)).length) (by rw [hc2]; exact hBb) (by simp)
  have hus := open_used ⟨logE 1 [X] (begW m) [], room, -1, false⟩
  rw [ho] at hus
  have hu2 : us' = [begW m] := by
   rw [hu, hc2, hBr]
   simp only [List.map_nil, takeRun, ite_self]
   rw [show (frameB (headRc m.length)).length + ((begW m).length - (frameB (headRc m.length)).length) = (begW m).length by omega, List.take_length]
  have hout : outW (frameB (headRc m.length)).length us' = m := by rw [hu2]; simp [outW, hBr]
  unfold StEnd
  rw [ho]
  refine ⟨rfl, .inl hout, log_put h1 l1 hl (by rw [hu2]; simp) ?_⟩
  simp only [logE_used, sumL] at hus
  simp at hus
  omega
 -- one segment
 have key1 : ∀ (done : Prop), ¬ done → StEnd l m done ⟨logE 1 [] X [], room, -1, false⟩ := by
  intro done hd
  obtain ⟨a, b, c⟩ := log_one (f := 1) (by omega) (by omega) (room := room) hXb hXr (by omega) hl (by omega)
  exact ⟨a, .inr ⟨hd, b⟩, c⟩
 have key3 : ∀ (done : Prop), StEnd l m done ⟨logE 2 [] (begW m) [], room, -1, false⟩ := by
  intro done
  obtain ⟨a, b, c⟩ := log_one (f := 2) (by omega) (by omega) (room := room) hBb hBr (by omega) hl (by omega)
  exact ⟨a, .inl b, c⟩
 -- two segments, the second one torn
 have key4 : ∀ (done : Prop) (k : Nat), ¬ done → k < (begW m).length → StEnd l m done ⟨logE 1 [X] ((begW m).take k) [], room, -1, false⟩ := by
  intro done k hd hk
  obtain ⟨t, ht⟩ : ∃ t, t = (begW m).take k := ⟨_, rfl⟩
  obtain ⟨hb0, hb1⟩ := begB_cut hm hml hk
  have htl : t.length ≤ (begW m).length := by rw [ht, List.length_take]; omega
  rw [← ht] at hb0 hb1 ⊢
  have hst : Stl ⟨logE 1 [X] t [], room, -1, false⟩ room := ⟨rfl, rfl, rfl, logE_ris _ _ _ _ (by simp), logE_nm (by simp)⟩
  have hseg : segS ⟨logE 1 [X] t [], room, -1, false⟩ = [] ++ 1 :: [2] := by
   unfold segS namesS
   simp only [Bool.false_eq_true, if_false]
   rw [segs_log _ _ _ _ (by omega) (by simp)]
   rfl
  obtain ⟨c, hc⟩ : ∃ c : Nat → List UInt8, c = fun n => if n = 1 then X else t := ⟨_, rfl⟩
  have hcont : ∀ n ∈ segS ⟨logE 1 [X] t [], room, -1, false⟩, contW (logE 1 [X] t []) n = some (c n) := by
   intro n hn
   rw [hseg] at hn
   simp only [List.nil_append, List.mem_cons, List.not_mem_nil, or_false] at hn
   rcases hn with rfl | rfl
   ·have := cont_log [X] 1 t [] (by simp) 0 (by simp)
    rw [hc]
    simpa using this
   ·have := cont_log [X] 1 t [] (by simp) 1 (by simp)
    rw [hc]
    simpa using this
  have hc1 : c 1 = X := by rw [hc]; rfl
  have hc2 : c 2 = t := by rw [hc]; rfl
  obtain ⟨s', us', hu, ho, h1, l1⟩ := open_some hst hseg c hcont (p := head0.length) (by rw [hc1]; exact hXb) (by intro n hn; simp only [List.mem_singleton] at hn; rw [hn, hc2]; exact hb0)
  have hus := open_used ⟨logE 1 [X] t [], room, -1, false⟩
  rw [ho] at hus
  have hu2 : us' = [X, []] := by
   rw [hu, hc1, hXr]
   simp only
   rw [show head0.length + (X.length - head0.length) = X.length by omega, if_pos rfl, List.take_length]
   simp only [List.map_cons, List.map_nil, takeRun, hc2, hb1, if_true, List.take_zero]
   split
   ·rename_i h0
    rw [List.eq_nil_of_length_eq_zero h0.symm]
   ·rfl
  have hout : outW head0.length us' = l := by rw [hu2]; simp [outW, hXr, recs_nil]
  unfold StEnd
  rw [ho]
  refine ⟨rfl, .inr ⟨hd, hout⟩, log_put h1 l1 hl (by rw [hu2]; simp) ?_⟩
  simp only [logE_used, sumL] at hus
  simp at hus
  omega
 have hcr : ∀ s : St, s.room = room → crashS s keep = ⟨crashE keep 0 s.E, room, -1, false⟩ := fun s h => by unfold crashS; rw [h]
 rw [hcr _ hroom]
 rcases hcase with ⟨hd, h1 | h1 | h1⟩ | ⟨hd, h1⟩
 ·rw [h1]
  obtain ⟨k, hk⟩ := crash_log keep [] 1 X []
  rw [hk]
  simp only [List.take_nil, List.append_nil]
  exact key1 _ hd
 ·rw [h1]
  obtain ⟨k, hk⟩ := crash_log keep [X] 1 [] (begW m)
  rw [hk]
  simp only [List.nil_append]
  by_cases hkl : k < (begW m).length
  ·exact key4 _ k hd hkl
  ·rw [List.take_of_length_le (by omega)]
   exact key2 _
 ·rw [h1]
  obtain ⟨k, hk⟩ := crash_log keep [X] 1 (begW m) []
  rw [hk]
  simp only [List.take_nil, List.append_nil]
  exact key2 _
 ·rw [h1]
  obtain ⟨k, hk⟩ := crash_log keep [] 2 (begW m) []
  rw [hk]
  simp only [List.take_nil, List.append_nil]
  exact key3 _
theorem start_nm {X : List UInt8} {m : List Rc} (hm : ∀ r ∈ m, rightRc r = true) (z fu : Int) {room : Int} (hr : ((X.length + (begW m).length : Nat) : Int) ≤ room) (keep : List Int) : NmW (crashS (startS ⟨1, 1, z, false⟩ m ⟨logE 1 [] X [], room, fu, false⟩).2.2 keep).E := by
 obtain ⟨_, hcase⟩ := start_next (X := X) hm z fu (room := room) hr
 show NmW (crashE keep 0 (startS ⟨1, 1, z, false⟩ m ⟨logE 1 [] X [], room, fu, false⟩).2.2.E)
 rcases hcase with ⟨_, h1 | h1 | h1⟩ | ⟨_, h1⟩
 ·rw [h1]
  obtain ⟨k, hk⟩ := crash_log keep [] 1 X []
  rw [hk]
  exact logE_nm (by simp)
 ·rw [h1]
  obtain ⟨k, hk⟩ := crash_log keep [X] 1 [] (begW m)
  rw [hk]
  exact logE_nm (by simp)
 ·rw [h1]
  obtain ⟨k, hk⟩ := crash_log keep [X] 1 (begW m) []
  rw [hk]
  exact logE_nm (by simp)
 ·rw [h1]
  obtain ⟨k, hk⟩ := crash_log keep [] 2 (begW m) []
  rw [hk]
  exact logE_nm (by simp)
/-! ### the smallest success, and the first part of WalStarts -/
theorem append_first {l : List Rc} (hl : ∀ r ∈ l, rightRc r = true) {room : Int} (hr : ((head0 ++ framesB l).length : Int) ≤ room) :
  ∃ x y, appendW ⟨1, 1, head0.length, false⟩ l ⟨logE 1 [] head0 [], room, -1, false⟩ = (0, ⟨1, 1, (head0 ++ framesB l).length, false⟩, ⟨logE 1 [] x y, room, -1, false⟩) ∧ x ++ y = head0 ++ framesB l ∧ x = head0 := by
 have hall : (l.all rightRc) = true := List.all_eq_true.2 hl
 unfold appendW
 simp only [Bool.false_eq_true, if_false, hall, Bool.true_eq_false, false_or]
 rw [if_neg (by omega)]
 by_cases h0 : l = []
 ·rw [if_pos h0, h0]
  exact ⟨head0, [], by simp [framesB], by simp [framesB], rfl⟩
 ·rw [if_neg h0, if_neg (by have := head0_len; omega)]
  have e1 := append_log (us := []) (f := 1) (x := head0) (y := []) (by simp) room (-1) (framesB l) (by simp [sumL] at hr ⊢; omega)
  rw [if_neg (by decide)] at e1
  simp only [List.length_nil, Nat.add_zero, List.nil_append] at e1
  unfold putW
  simp only
  rw [show Int.toNat 1 = 1 from rfl, e1]
  simp only
  rw [if_neg (by simp)]
  exact ⟨head0, framesB l, by simp [fuse1], rfl, rfl⟩
theorem sync_first {x y X : List UInt8} (h : x ++ y = X) {room z : Int} : syncW ⟨1, 1, z, false⟩ ⟨logE 1 [] x y, room, -1, false⟩ = (0, ⟨1, 1, z, false⟩, ⟨logE 1 [] X [], room, -1, false⟩) := by
 have e2 := sync_log (us := []) (f := 1) (x := x) (y := y) (by simp) room (-1)
 rw [if_neg (by decide)] at e2
 simp only [List.length_nil, Nat.add_zero] at e2
 unfold syncW
 simp only [Bool.false_eq_true, if_false]
 rw [if_neg (by omega), show Int.toNat 1 = 1 from rfl, e2, h]
 simp [noteW, fuse1]
theorem begW_nil : begW [] = head0 := by simp [begW, head0, framesB]
end Go.Proofs.YtnkbphecabnnaaaGreatDoor
namespace Go.Proofs.YtnkbphecabnnaaaGreatDoor
open Go.RowKit Go.Maps
set_option linter.unusedSimpArgs false
set_option linter.unusedVariables false
set_option maxRecDepth 100000

theorem logE_len (f : Nat) (us : List (List UInt8)) (x y : List UInt8) : (logE f us x y).length = us.length + 1 := by
  induction us generalizing f with
  | nil => rfl
  | cons u r ih => rw [logE_cons, List.length_cons, ih, List.length_cons]
theorem ok_logE {f : Nat} {us : List (List UInt8)} {x y : List UInt8} {room fu : Int} {off : Bool} (hu : sumL us + (x.length + y.length) ≤ 8388608) (hl : us.length ≤ 1000) (hr : 0 ≤ room ∧ room ≤ 8388608) (hf : -1 ≤ fu ∧ fu ≤ 9223372036854775807) : Ok6 ⟨logE f us x y, room, fu, off⟩ (us.length + 1) :=
  ⟨⟨hr, hf, by show usedE (logE f us x y) ≤ _; rw [logE_used]; exact hu, by show (logE f us x y).length ≤ _; rw [logE_len]; omega⟩, by show (logE f us x y).length ≤ _; rw [logE_len]; exact Nat.le_refl _, fun e he => by
    obtain ⟨i, _, _, h3⟩ := logE_mem us f x y e he
    rw [h3, fileW_len]
    omega⟩
def awR : Rc := ⟨3, 1, 1, 0, [97]⟩
theorem awR_right : rightRc awR = true := by decide
theorem awR_frame : (framesB [awR]).length ≤ 54 := by
  have h := framesB_len (n := 1) (l := [awR]) (fun r hr => by simp only [List.mem_singleton] at hr; subst hr; exact ⟨awR_right, by decide⟩)
  simpa using h
def awX : List UInt8 := head0 ++ framesB [awR]
theorem aw_all : ∀ r ∈ [awR], rightRc r = true := by intro r hr; simp only [List.mem_singleton] at hr; subst hr; exact awR_right
theorem aw_open : (openS ⟨logE 1 [] awX [], 10000, -1, false⟩).1 = 0 ∧ (openS ⟨logE 1 [] awX [], 10000, -1, false⟩).2.2.1 = [awR] := by
  have h1 := recs_frames aw_all
  have hd : awX.drop head0.length = framesB [awR] := by unfold awX; rw [List.drop_left]
  have hl : awX.length = head0.length + (framesB [awR]).length := by unfold awX; rw [List.length_append]
  have h0 := head0_len
  have h2 := awR_frame
  obtain ⟨a, b, _⟩ := log_one (f := 1) (by omega) (by omega) (X := awX) (p := head0.length) (l0 := [awR]) (l := [awR]) (room := 10000) (begB_head0 _) (by rw [hd, h1, hl]; simp) (by omega) aw_all (by omega)
  exact ⟨a, b⟩
/-- What the law's right keeps. -/
def rgS (out : List Rc) (r : Rc) : List Rc := if out.length < 40 ∧ r.dt.length ≤ 1000 ∧ rightRc r = true then out ++ [r] else out
def rgL (l : List Rc) : List Rc := l.foldl rgS []
theorem rgL_few (l : List Rc) : (rgL l).length ≤ 40 ∧ ∀ r ∈ rgL l, r.dt.length ≤ 1000 ∧ rightRc r = true := by
  have key : ∀ (l out : List Rc), (out.length ≤ 40 ∧ ∀ r ∈ out, r.dt.length ≤ 1000 ∧ rightRc r = true) → ((l.foldl rgS out).length ≤ 40 ∧ ∀ r ∈ l.foldl rgS out, r.dt.length ≤ 1000 ∧ rightRc r = true) := by
    intro l
    induction l with
    | nil => intro out h; exact h
    | cons x q ih =>
      intro out h
      rw [List.foldl_cons]
      refine ih _ ?_
      unfold rgS
      split
      · rename_i hc
        refine ⟨by rw [List.length_append, List.length_singleton]; omega, fun r hr => ?_⟩
        rcases List.mem_append.1 hr with hr | hr
        · exact h.2 r hr
        · simp only [List.mem_singleton] at hr; subst hr; exact hc.2
      · exact h
  exact key l [] ⟨by simp, by simp⟩
theorem rgL_take (l : List Rc) (j : Nat) (r : Rc) (h : l[j]? = some r) : rgL (l.take (j + 1)) = rgS (rgL (l.take j)) r := by
  unfold rgL
  rw [List.take_add_one, h, List.foldl_append]
  rfl
theorem ris_syncS {s : St} (h : ERis s.E) (f : List UInt8) : ERis (syncS s f).2.E := by
  unfold syncS onFile
  split
  · exact h
  · split
    · exact h
    · split
      · exact h
      · exact ris_emod h f _ fun _ => rfl
theorem okw_put {w : Wl} {n z : Int} {b : List UInt8} {s : St} {k : Nat} (h : Ok6 s k) (hr : ERis s.E) (hk : k < 1099511627776) : Ok6 (putW w n z b s).2.2 (k + 1) := by
  unfold putW
  simp only
  split
  · exact ok_append h hr _ _ (by rw [fileW_len]; omega) hk
  · exact ok_append h hr _ _ (by rw [fileW_len]; omega) hk
theorem okw_append {w : Wl} {l : List Rc} {s : St} {k : Nat} (h : Ok6 s k) (hr : ERis s.E) (hk : k < 1099511627776) : Ok6 (appendW w l s).2.2 (k + 1) := by
  unfold appendW
  split
  · exact ok_more h
  · split
    · exact ok_more h
    · split
      · exact ok_more h
      · split
        · split
          · exact ok_more h
          · simp only
            split
            · exact ok_more (ok_sync h _)
            · exact okw_put (ok_sync h _) (ris_syncS hr _) hk
        · exact okw_put h hr hk
theorem okw_sync {w : Wl} {s : St} {k : Nat} (h : Ok6 s k) : Ok6 (syncW w s).2.2 k := by
  unfold syncW
  split
  · exact h
  · split
    · exact h
    · exact ok_sync h _
theorem okw_drop (k : Nat) : ∀ (m a : Nat) (s : St), Ok6 s k → Ok6 (dropW a m s).2 k
  | 0, _, _, h => h
  | m + 1, a, s, h => by
    rw [dropW]
    split
    · exact ok_remove h _
    · exact okw_drop k m (a + 1) _ (ok_remove h _)
theorem okw_start {w : Wl} {l : List Rc} {s : St} {k : Nat} (h : Ok6 s k) (hr : ERis s.E) (hk : k < 1099511627776) : Ok6 (startS w l s).2.2 (k + 1) := by
  have h1 := fun (f b : List UInt8) (hf : f.length ≤ 1099511627776) => ok_append h hr f b hf hk
  unfold startS
  split
  · exact ok_more h
  · split
    · exact ok_more h
    · split
      · exact ok_more h
      · simp only
        split
        · exact h1 _ _ (by rw [fileW_len]; omega)
        · split
          · exact ok_sync (h1 _ _ (by rw [fileW_len]; omega)) _
          · split
            · split
              · exact okw_drop _ _ _ _ (ok_sync (h1 _ _ (by rw [fileW_len]; omega)) _)
              · exact okw_drop _ _ _ _ (ok_sync (h1 _ _ (by rw [fileW_len]; omega)) _)
            · split
              · exact ok_sync (h1 _ _ (by rw [fileW_len]; omega)) _
              · exact ok_sync (h1 _ _ (by rw [fileW_len]; omega)) _
theorem fr_few {l : List Rc} (h : ∀ r ∈ l, rightRc r = true ∧ r.dt.length ≤ 1000) (hl : l.length ≤ 41) : head0.length + (framesB l).length ≤ 50000 := by
  have h1 := framesB_len (n := 1000) h
  have h2 := head0_len
  have h3 : l.length * (1000 + 53) ≤ 41 * 1053 := Nat.mul_le_mul_right _ hl
  omega

end Go.Proofs.YtnkbphecabnnaaaGreatDoor
