/-
  Answers as plain Lean: what is written is read back, and what was read was written. No condition but those stated.
-/
import Derived.Test.YtjfaplmojpldhaaAnsPlain
namespace Go.Proofs.Ytjfaplmojpldhaa
open Go.RowKit
set_option linter.unusedSimpArgs false
set_option linter.unusedVariables false
set_option maxRecDepth 100000

def stopP (st : RS) : Bool := decide (st.s.length = 0)
def stopR (st : RS) : Bool := st.bad
def prR (m : Int) (st : RS) : Pr × RS := (⟨(rtext st m).1, (rtext (rtext st m).2 m).1, (rnum (rtext (rtext st m).2 m).2).1, (rnum (rnum (rtext (rtext st m).2 m).2).2).1⟩, (rnum (rnum (rtext (rtext st m).2 m).2).2).2)
def prsR (stop : RS → Bool) (m : Int) : Nat → List Pr → RS → List Pr × RS
  | 0, l, st => (l, st)
  | n + 1, l, st => if stop st = true then (l, st) else prsR stop m n (l ++ [(prR m st).1]) (prR m st).2
def rdPrs (stop : RS → Bool) (m : Int) (st : RS) : List Pr × RS := prsR stop m (rnum st).1.toNat [] (rnum st).2
def otR (stop : RS → Bool) (m : Int) (st : RS) : Ot × RS := (⟨(rdPrs stop m st).1, (rflag (rdPrs stop m st).2).1, (rnum (rflag (rdPrs stop m st).2).2).1⟩, (rnum (rflag (rdPrs stop m st).2).2).2)
def otsR (stop : RS → Bool) (m : Int) : Nat → List Ot → RS → List Ot × RS
  | 0, l, st => (l, st)
  | n + 1, l, st => if stop st = true then (l, st) else otsR stop m n (l ++ [(otR stop m st).1]) (otR stop m st).2
def rdOts (stop : RS → Bool) (m : Int) (st : RS) : List Ot × RS := otsR stop m (rnum st).1.toNat [] (rnum st).2
/-- What stands behind the head. -/
def tailA (stop : RS → Bool) (m : Int) (c q e r : Int) (y : Bool) (st : RS) : An × RS := (⟨c, q, e, r, y, (rdOts stop m st).1, (rtext (rdOts stop m st).2 m).1⟩, (rtext (rdOts stop m st).2 m).2)
def readA (stop : RS → Bool) (m : Int) (st : RS) : An × RS :=
  tailA stop m (rnum st).1 (rnum (rnum st).2).1 (upto (rnum (rnum st).2).2 255).1 (rnum (upto (rnum (rnum st).2).2 255).2).1 (rflag (rnum (upto (rnum (rnum st).2).2 255).2).2).1 (rflag (rnum (upto (rnum (rnum st).2).2 255).2).2).2
structure PrOk (p : Pr) : Prop where
  made : okNum p.made = true
  rev : okNum p.rev = true
structure OtOk (o : Ot) : Prop where
  count : okNum o.count = true
  prs : ∀ p ∈ o.pairs, PrOk p
theorem textA_back (t r : List UInt8) (m : Int) (h : t.length ≤ 2097152) (hm : 2097152 ≤ m) : rtext ⟨numB t.length ++ (t ++ r), false⟩ m = (t, ⟨r, false⟩) := by
  rw [← List.append_assoc]
  exact text_back t r m (by omega) (by omega)
theorem okLenA {n : Nat} (h : n ≤ 2097152) : okNum (n : Int) = true := okNum_iff.2 ⟨by omega, by omega⟩
section
variable {stop : RS → Bool} (hs : ∀ s, s ≠ [] → stop ⟨s, false⟩ = false) {m : Int} (hm : 2097152 ≤ m)
theorem pr_back (p : Pr) (r : List UInt8) (m : Int) (hm : 2097152 ≤ m) (h : PrOk p) (hl : (itsB (prIts p)).length ≤ 2097152) : prR m ⟨itsB (prIts p) ++ r, false⟩ = (p, ⟨r, false⟩) := by
  simp only [prIts, itsB_cons, itsB_nil, nI_B, tI_B, List.length_append] at hl
  simp only [prIts, itsB_cons, itsB_nil, nI_B, tI_B, List.append_assoc, List.nil_append]
  unfold prR
  rw [textA_back _ _ _ (by omega) hm]
  simp only
  rw [textA_back _ _ _ (by omega) hm]
  simp only
  rw [numQ_back _ _ h.made]
  simp only
  rw [numQ_back _ _ h.rev]
include hs hm
theorem prs_back (l : List Pr) (acc : List Pr) (r : List UInt8) (h : ∀ p ∈ l, PrOk p) (hl : (itsB (l.flatMap prIts)).length ≤ 2097152) : prsR stop m l.length acc ⟨itsB (l.flatMap prIts) ++ r, false⟩ = (acc ++ l, ⟨r, false⟩) := by
  induction l generalizing acc with
  | nil => simp [prsR, itsB_nil]
  | cons d l ih =>
    rw [List.flatMap_cons, itsB_app, List.length_append] at hl
    rw [List.flatMap_cons, itsB_app, List.append_assoc, List.length_cons]
    unfold prsR
    rw [if_neg (by rw [hs _ (by rw [prIts, itsB_cons, tI_B]; simp [numB])]; simp), pr_back d _ m hm (h d (by simp)) (by omega)]
    rw [ih _ (fun x hx => h x (by simp [hx])) (by omega)]
    simp
theorem ot_back (o : Ot) (r : List UInt8) (h : OtOk o) (hl : (itsB (otIts o)).length ≤ 2097152) : otR stop m ⟨itsB (otIts o) ++ r, false⟩ = (o, ⟨r, false⟩) := by
  have hp := ot_lenB o
  have hl0 := hl
  simp only [otIts, itsB_cons, itsB_app, itsB_nil, nI_B, fI_B, List.length_append] at hl
  simp only [otIts, itsB_cons, itsB_app, itsB_nil, nI_B, fI_B, List.append_assoc, List.nil_append]
  unfold otR rdPrs
  rw [numQ_back _ _ (okLenA (by omega))]
  simp only [Int.toNat_natCast]
  have hb := prs_back hs hm o.pairs [] (numB (if o.more = true then 1 else 0) ++ (numB o.count.toNat ++ r)) h.prs (by omega)
  rw [hb]
  simp only [List.nil_append]
  rw [flag_back]
  simp only
  rw [numQ_back _ _ h.count]
theorem ots_back (l : List Ot) (acc : List Ot) (r : List UInt8) (h : ∀ p ∈ l, OtOk p) (hl : (itsB (l.flatMap otIts)).length ≤ 2097152) : otsR stop m l.length acc ⟨itsB (l.flatMap otIts) ++ r, false⟩ = (acc ++ l, ⟨r, false⟩) := by
  induction l generalizing acc with
  | nil => simp [otsR, itsB_nil]
  | cons d l ih =>
    rw [List.flatMap_cons, itsB_app, List.length_append] at hl
    rw [List.flatMap_cons, itsB_app, List.append_assoc, List.length_cons]
    unfold otsR
    rw [if_neg (by rw [hs _ (by rw [otIts, itsB_cons, nI_B]; simp [numB])]; simp), ot_back hs hm d _ (h d (by simp)) (by omega)]
    rw [ih _ (fun x hx => h x (by simp [hx])) (by omega)]
    simp
omit hs hm in
theorem nums_ok {x : An} (h : (numsA x).any bigN = false) : okNum x.rev = true ∧ ∀ o ∈ x.outs, OtOk o := by
  simp only [numsA, otNums, prNums, List.any_eq_false, Bool.not_eq_true, List.mem_cons, List.mem_flatMap, List.not_mem_nil, or_false] at h
  have g : ∀ n, bigN n = false → okNum n = true := fun n hn => by simp [okNum, hn]
  exact ⟨g _ (h _ (.inl rfl)), fun o ho => ⟨g _ (h _ (.inr ⟨o, ho, .inl rfl⟩)), fun p hp => ⟨g _ (h _ (.inr ⟨o, ho, .inr ⟨p, hp, .inl rfl⟩⟩)), g _ (h _ (.inr ⟨o, ho, .inr ⟨p, hp, .inr rfl⟩⟩))⟩⟩⟩
omit hs hm in
theorem nums_to {x : An} (h1 : okNum x.rev = true) (h2 : ∀ o ∈ x.outs, OtOk o) : (numsA x).any bigN = false := by
  have g : ∀ n, okNum n = true → bigN n = false := fun n hn => by simpa [okNum] using hn
  simp only [numsA, otNums, prNums, List.any_eq_false, Bool.not_eq_true, List.mem_cons, List.mem_flatMap, List.not_mem_nil, or_false]
  rintro n (rfl | ⟨o, ho, rfl | ⟨p, hp, rfl | rfl⟩⟩)
  · exact g _ h1
  · exact g _ (h2 o ho).count
  · exact g _ ((h2 o ho).prs p hp).made
  · exact g _ ((h2 o ho).prs p hp).rev
theorem readA_back (x : An) (r : List UInt8) (h : rightA x = true) : readA stop m ⟨ansB x ++ r, false⟩ = (x, ⟨r, false⟩) := by
  obtain ⟨h1, h2, h3⟩ := rightA_of h
  obtain ⟨n1, n2⟩ := nums_ok h2
  obtain ⟨i1, i2, i3⟩ := head_of h1
  have i4 := ids_num i1
  have i5 : okNum x.err = true := okNum_iff.2 ⟨i2, by omega⟩
  obtain ⟨client, seq, err, rev, yes, outs, token⟩ := x
  simp only at n1 n2 i2 i3 i4 i5
  have l3 := ots_lenB outs
  simp only [ansB, ansIts, otsIts, itsB_cons, itsB_app, itsB_nil, nI_B, fI_B, tI_B, List.length_append] at h3
  simp only [ansB, ansIts, otsIts, itsB_cons, itsB_app, itsB_nil, nI_B, fI_B, tI_B, List.append_assoc, List.nil_append]
  unfold readA
  simp only [numQ_back _ _ i4.1, numQ_back _ _ i4.2, uptoQ_back _ _ 255 i5 i3, numQ_back _ _ n1, flag_back]
  unfold tailA rdOts
  have e1 := fun r => numQ_back (outs.length : Int) r (okLenA (by omega))
  simp only [Int.toNat_natCast] at e1 ⊢
  have hb := ots_back hs hm outs [] (numB token.length ++ (token ++ r)) n2 (by omega)
  simp only [e1, Int.toNat_natCast, hb, List.nil_append]
  rw [textA_back _ _ _ (by omega) hm]
end
theorem stopP_ne (s : List UInt8) (h : s ≠ []) : stopP ⟨s, false⟩ = false := by
  cases s with
  | nil => exact absurd rfl h
  | cons a l => simp [stopP]
theorem stopR_ne (s : List UInt8) (h : s ≠ []) : stopR ⟨s, false⟩ = false := rfl
/-! ### what was read -/
theorem pr_was {st : RS} {m : Int} {r : List UInt8} (h : (prR m st).2 = ⟨r, false⟩) : st = ⟨itsB (prIts (prR m st).1) ++ r, false⟩ ∧ PrOk (prR m st).1 := by
  unfold prR at h ⊢
  simp only at h ⊢
  obtain ⟨e1, o1⟩ := numQ_w h
  obtain ⟨e2, o2⟩ := numQ_w e1
  have e3 := textQ_w e2
  have e4 := textQ_w e3
  refine ⟨?_, ⟨o2, o1⟩⟩
  simp only [prIts, itsB_cons, itsB_nil, nI_B, tI_B, List.append_assoc, List.nil_append]
  exact e4
theorem prs_was (m : Int) (n : Nat) (l : List Pr) (st : RS) (r : List UInt8) (hr : r ≠ []) (h : (prsR stopP m n l st).2 = ⟨r, false⟩) : ∃ k : List Pr, (prsR stopP m n l st).1 = l ++ k ∧ k.length = n ∧ st = ⟨itsB (k.flatMap prIts) ++ r, false⟩ ∧ ∀ d ∈ k, PrOk d := by
  induction n generalizing l st with
  | zero => exact ⟨[], by simp [prsR], rfl, by simpa [prsR, itsB_nil] using h, by simp⟩
  | succ n ih =>
    unfold prsR at h ⊢
    split at h
    · rename_i hc
      simp only at h
      rw [h] at hc
      simp [stopP] at hc
      exact absurd hc hr
    · rename_i hc
      rw [if_neg hc]
      obtain ⟨k, e1, e2, e3, e4⟩ := ih _ _ h
      obtain ⟨g1, g2⟩ := pr_was e3
      refine ⟨(prR m st).1 :: k, by rw [e1]; simp, by simp [e2], ?_, by simpa using ⟨g2, e4⟩⟩
      rw [List.flatMap_cons, itsB_app, List.append_assoc]
      exact g1
theorem ot_was {st : RS} {m : Int} {r : List UInt8} (h : (otR stopP m st).2 = ⟨r, false⟩) : st = ⟨itsB (otIts (otR stopP m st).1) ++ r, false⟩ ∧ OtOk (otR stopP m st).1 := by
  unfold otR at h ⊢
  simp only at h ⊢
  obtain ⟨e1, o1⟩ := numQ_w h
  have e2 := flagQ_w e1
  obtain ⟨k, q1, q2, q3, q4⟩ := prs_was _ _ _ _ _ (by simp [numB]) (show (prsR stopP m (rnum st).1.toNat [] (rnum st).2).2 = _ from e2)
  obtain ⟨g1, g2⟩ := numQ_w q3
  have g0 := okNum_iff.1 g2
  have q1' : (rdPrs stopP m st).1 = k := by rw [List.nil_append] at q1; exact q1
  rw [q1']
  refine ⟨?_, ⟨o1, q4⟩⟩
  simp only [otIts, itsB_cons, itsB_app, itsB_nil, nI_B, fI_B, q2, Int.toNat_natCast, List.append_assoc, List.nil_append]
  exact g1
theorem ots_was (m : Int) (n : Nat) (l : List Ot) (st : RS) (r : List UInt8) (hr : r ≠ []) (h : (otsR stopP m n l st).2 = ⟨r, false⟩) : ∃ k : List Ot, (otsR stopP m n l st).1 = l ++ k ∧ k.length = n ∧ st = ⟨itsB (k.flatMap otIts) ++ r, false⟩ ∧ ∀ d ∈ k, OtOk d := by
  induction n generalizing l st with
  | zero => exact ⟨[], by simp [otsR], rfl, by simpa [otsR, itsB_nil] using h, by simp⟩
  | succ n ih =>
    unfold otsR at h ⊢
    split at h
    · rename_i hc
      simp only at h
      rw [h] at hc
      simp [stopP] at hc
      exact absurd hc hr
    · rename_i hc
      rw [if_neg hc]
      obtain ⟨k, e1, e2, e3, e4⟩ := ih _ _ h
      obtain ⟨g1, g2⟩ := ot_was e3
      refine ⟨(otR stopP m st).1 :: k, by rw [e1]; simp, by simp [e2], ?_, by simpa using ⟨g2, e4⟩⟩
      rw [List.flatMap_cons, itsB_app, List.append_assoc]
      exact g1
theorem readA_was {st : RS} {m : Int} {r : List UInt8} (h : (readA stopP m st).2 = ⟨r, false⟩) : st = ⟨ansB (readA stopP m st).1 ++ r, false⟩ ∧ okNum (readA stopP m st).1.rev = true ∧ (∀ o ∈ (readA stopP m st).1.outs, OtOk o) ∧ 0 ≤ (readA stopP m st).1.err ∧ (readA stopP m st).1.err ≤ 255 := by
  unfold readA tailA at h ⊢
  simp only at h ⊢
  have e1 := textQ_w h
  obtain ⟨k, q1, q2, q3, q4⟩ := ots_was m _ _ _ _ (by simp [numB]) (show (otsR stopP m _ [] _).2 = _ from e1)
  obtain ⟨g1, g2⟩ := numQ_w q3
  have g0 := okNum_iff.1 g2
  have e2 := flagQ_w g1
  obtain ⟨e3, o3⟩ := numQ_w e2
  obtain ⟨e4, o4, o5⟩ := uptoQ_w e3
  obtain ⟨e5, o6⟩ := numQ_w e4
  obtain ⟨e6, o7⟩ := numQ_w e5
  have o4' := okNum_iff.1 o4
  have q1' : (rdOts stopP m (rflag (rnum (upto (rnum (rnum st).2).2 255).2).2).2).1 = k := by rw [List.nil_append] at q1; exact q1
  rw [q1']
  refine ⟨?_, o3, q4, o4'.1, o5⟩
  simp only [ansB, ansIts, otsIts, itsB_cons, itsB_app, itsB_nil, nI_B, fI_B, tI_B, q2, Int.toNat_natCast, List.append_assoc, List.nil_append]
  exact e6
def maxA : Int := 2097152
def decA (s : List UInt8) : Option An :=
  if 2097152 < s.length then none
  else if rend (readA stopP 2097152 ⟨s, false⟩).2 = 0 ∧ okIds (readA stopP 2097152 ⟨s, false⟩).1.client (readA stopP 2097152 ⟨s, false⟩).1.seq = true then some (readA stopP 2097152 ⟨s, false⟩).1 else none
theorem rendA_nil {st : RS} (h : rend st = 0) : st = ⟨[], false⟩ := by
  obtain ⟨q, b⟩ := st
  unfold rend at h
  simp only at h
  split at h
  · simp at h
  · rename_i g
    simp at g
    obtain ⟨rfl, g2⟩ := g
    have : q = [] := by cases q; rfl; simp at g2
    rw [this]
theorem decA_some {s : List UInt8} {x : An} (h : decA s = some x) : rightA x = true ∧ s = ansB x := by
  unfold decA at h
  split at h
  · simp at h
  · rename_i hl
    split at h
    · rename_i hh
      injection h with h
      obtain ⟨g1, g2, g3, g4, g5⟩ := readA_was (rendA_nil hh.1)
      rw [h] at g1 g2 g3 g4 g5 hh
      rw [List.append_nil] at g1
      injection g1 with g1
      refine ⟨?_, g1⟩
      rw [g1] at hl
      have n := nums_to g2 g3
      simp only [rightA, okHead, hh.2, n, Bool.true_and, Bool.not_false, Bool.and_true, Bool.and_eq_true, Bool.not_eq_true', decide_eq_false_iff_not, decide_eq_true_eq]
      exact ⟨⟨by omega, by omega⟩, by omega⟩
    · simp at h
theorem decA_right {x : An} (h : rightA x = true) : decA (ansB x) = some x := by
  have hb := readA_back (stop := stopP) stopP_ne (m := 2097152) (by omega) x [] h
  rw [List.append_nil] at hb
  obtain ⟨h1, h2, h3⟩ := rightA_of h
  unfold decA
  rw [if_neg (by omega), hb, if_pos ⟨by simp [rend], (head_of h1).1⟩]
theorem decA_unlike {x z : An} {m : List UInt8} (h : rightA x = true) (hz : decA (ansB x ++ m) = some z) : m = [] := by
  obtain ⟨g3, g4⟩ := decA_some hz
  have e1 := readA_back (stop := stopP) stopP_ne (m := 2097152) (by omega) x m h
  have e2 := readA_back (stop := stopP) stopP_ne (m := 2097152) (by omega) z [] g3
  rw [List.append_nil, ← g4, e1] at e2
  injection e2 with _ e2
  injection e2
theorem decA_more {x : An} {m : List UInt8} (h : rightA x = true) (hm : m ≠ []) : decA (ansB x ++ m) = none := by
  cases hz : decA (ansB x ++ m) with
  | none => rfl
  | some z => exact absurd (decA_unlike h hz) hm
theorem decA_cut {x : An} {n : Nat} (h : rightA x = true) (hn : n < (ansB x).length) : decA ((ansB x).take n) = none := by
  cases hz : decA ((ansB x).take n) with
  | none => rfl
  | some z =>
    obtain ⟨g3, g4⟩ := decA_some hz
    have h3 := decA_right h
    have e : ansB z ++ (ansB x).drop n = ansB x := by rw [← g4, List.take_append_drop]
    rw [← e] at h3
    have := decA_unlike g3 h3
    have h4 := congrArg List.length this
    simp at h4
    omega
theorem lenA_of {x : An} (h : (ansB x).length ≤ 2097152) : LenA x := by
  have l := ots_lenB x.outs
  simp only [ansB, ansIts, otsIts, itsB_cons, itsB_app, List.length_append] at h
  exact ⟨by omega, fun o ho => by have := l.2 o ho; omega⟩
theorem encA_right {x : An} (h : rightA x = true) : encA x = (ansB x, 0) := by
  obtain ⟨h1, h2, h3⟩ := rightA_of h
  unfold encA
  rw [if_neg (by rw [h1]; simp), if_neg (by rw [h2]; simp), written_ok _ _ (its_okA x h1 h2 (lenA_of h3)) (by simp only [List.length_nil, Nat.zero_add]; exact h3)]
  rfl
theorem encA_some {x : An} {s : List UInt8} (h : encA x = (s, 0)) : rightA x = true ∧ s = ansB x := by
  unfold encA at h
  split at h
  · simp at h
  · split at h
    · simp at h
    · rename_i h1 h2
      have w := written_whole _ _ _ h
      have e : s = ansB x := by rw [w.1]; simp [ansB, itsB, List.flatMap]
      refine ⟨?_, e⟩
      have hl := w.2.1
      rw [e] at hl
      rw [rightA]
      simp only [Bool.not_eq_false] at h1
      simp only [Bool.not_eq_true] at h2
      simp only [h1, h2, Bool.not_false, Bool.and_self, Bool.true_and, decide_eq_true_eq]
      simpa using hl
end Go.Proofs.Ytjfaplmojpldhaa
