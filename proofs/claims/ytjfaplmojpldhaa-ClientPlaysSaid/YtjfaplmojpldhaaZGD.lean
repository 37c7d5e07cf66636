/-
 Answers as plain Lean, and in memory: the model, the things that are written, what is read. No condition but those stated.
-/
import Derived.Test.YtjfaplmojpldhaaZGC
namespace Go.Proofs.Ytjfaplmojpldhaa
open Go.RowKit
set_option linter.unusedSimpArgs false
set_option linter.unusedVariables false
set_option maxRecDepth 100000

structure Pr where
 key : List UInt8
 val : List UInt8
 made : Int
 rev : Int
structure Ot where
 pairs : List Pr
 more : Bool
 count : Int
structure An where
 client : Int
 seq : Int
 err : Int
 rev : Int
 yes : Bool
 outs : List Ot
 token : List UInt8
def anZ : An := ⟨0, 0, 0, 0, false, [], []⟩
/-- An out in memory: where its pairs stand. -/
structure Om where
 o : Ot
 a : Option Addr
 c : Nat
def prc (p : Pr) : List Value := [Str p.key, Str p.val, .int .i64 p.made, .int .i64 p.rev]
def prcs (l : List Pr) : List Value := l.flatMap prc
def omc (m : Om) : List Value := [.slice m.a m.o.pairs.length m.c, .bool m.o.more, .int .i64 m.o.count]
def omcs (l : List Om) : List Value := l.flatMap omc
def anc (x : An) (s : Value) : List Value := [.int .i64 x.client, .int .i64 x.seq, .int .i64 x.err, .int .i64 x.rev, .bool x.yes, s, Str x.token]
abbrev anV (x : An) (s : Value) : Value := .agg #[.int .i64 x.client, .int .i64 x.seq, .int .i64 x.err, .int .i64 x.rev, .bool x.yes, s, Str x.token]
theorem prc_len (p : Pr) : (prc p).length = 4 := rfl
theorem omc_len (p : Om) : (omc p).length = 3 := rfl
theorem prcs_one (l : List Pr) : ∀ u ∈ prcs l, u.oneCell' = true := fl_one prc (fun d u hu => by simp [prc] at hu; rcases hu with rfl | rfl | rfl | rfl <;> rfl) l
theorem omcs_one (l : List Om) : ∀ u ∈ omcs l, u.oneCell' = true := fl_one omc (fun d u hu => by simp [omc] at hu; rcases hu with rfl | rfl | rfl <;> rfl) l
theorem rd_pr {w : World} {l : List Pr} {g off : Nat} {sp n} (h : Rd w 4 (some ⟨g, off, sp⟩) n (prcs l)) {k : Nat} {d : Pr} (hx : l[k]? = some d) :
  w.cell? ⟨g, off + k * 4, none⟩ = some (Str d.key) ∧ w.cell? ⟨g, off + k * 4 + 1, none⟩ = some (Str d.val) ∧ w.cell? ⟨g, off + k * 4 + 2, none⟩ = some (.int .i64 d.made) ∧ w.cell? ⟨g, off + k * 4 + 3, none⟩ = some (.int .i64 d.rev) :=
 ⟨rd_fl prc 4 prc_len h hx 0 (by omega) _ rfl, rd_fl prc 4 prc_len h hx 1 (by omega) _ rfl, rd_fl prc 4 prc_len h hx 2 (by omega) _ rfl, rd_fl prc 4 prc_len h hx 3 (by omega) _ rfl⟩
theorem rd_om {w : World} {l : List Om} {g off : Nat} {sp n} (h : Rd w 3 (some ⟨g, off, sp⟩) n (omcs l)) {k : Nat} {d : Om} (hx : l[k]? = some d) :
  w.cell? ⟨g, off + k * 3, none⟩ = some (.slice d.a d.o.pairs.length d.c) ∧ w.cell? ⟨g, off + k * 3 + 1, none⟩ = some (.bool d.o.more) ∧ w.cell? ⟨g, off + k * 3 + 2, none⟩ = some (.int .i64 d.o.count) :=
 ⟨rd_fl omc 3 omc_len h hx 0 (by omega) _ rfl, rd_fl omc 3 omc_len h hx 1 (by omega) _ rfl, rd_fl omc 3 omc_len h hx 2 (by omega) _ rfl⟩
/-- Outs that can be read. -/
structure RdO (w : World) (a : Option Addr) (m : List Om) : Prop where
 row : Rd w 3 a m.length (omcs m)
 prs : ∀ x ∈ m, Rd w 4 x.a x.o.pairs.length (prcs x.o.pairs)
theorem RdO.step {w w' : World} {a : Option Addr} {m : List Om} {S' : List Nat} (h : RdO w a m) (k : Step [] S' w w') : RdO w' a m := ⟨h.row.step0 k, fun x hx => (h.prs x hx).step0 k⟩
theorem RdO.nil (w : World) : RdO w none [] := ⟨(Row.none w 3).rd, by simp⟩
/-- How many there are, at most. -/
structure LenA (x : An) : Prop where
 o : x.outs.length ≤ 2097152
 p : ∀ o ∈ x.outs, o.pairs.length ≤ 2097152
structure PrB (p : Pr) : Prop where
 made : p.made < 9223372036854775808
 rev : p.rev < 9223372036854775808
 key : p.key.length ≤ 562949953421312
 val : p.val.length ≤ 562949953421312
structure OtB (o : Ot) : Prop where
 count : o.count < 9223372036854775808
 prs : ∀ p ∈ o.pairs, PrB p
structure AnB (x : An) : Prop where
 client : x.client < 9223372036854775808
 seq : x.seq < 9223372036854775808
 err : x.err < 9223372036854775808
 rev : x.rev < 9223372036854775808
 token : x.token.length ≤ 562949953421312
 outs : ∀ o ∈ x.outs, OtB o
/-! ### what is written -/
def prIts (p : Pr) : List It := [tI p.key, tI p.val, nI p.made, nI p.rev]
def otIts (o : Ot) : List It := nI o.pairs.length :: (o.pairs.flatMap prIts ++ [fI o.more, nI o.count])
def otsIts (l : List Ot) : List It := nI l.length :: l.flatMap otIts
def ansIts (x : An) : List It := nI x.client :: nI x.seq :: nI x.err :: nI x.rev :: fI x.yes :: (otsIts x.outs ++ [tI x.token])
def ansB (x : An) : List UInt8 := itsB (ansIts x)
def prNums (p : Pr) : List Int := [p.made, p.rev]
def otNums (o : Ot) : List Int := o.count :: o.pairs.flatMap prNums
def numsA (x : An) : List Int := x.rev :: x.outs.flatMap otNums
def okHead (x : An) : Bool := okIds x.client x.seq && !(decide (x.err < 0)) && !(decide (255 < x.err))
def encA (x : An) : List UInt8 × Int :=
 if okHead x = false then ([], 1) else if (numsA x).any bigN = true then ([], 1) else written [] (ansIts x)
def refAB (x : An) : List UInt8 × Int :=
 if okHead x = false then ([], 1) else if (ansIts x).any badI = true then ([], 1) else written [] (ansIts x)
theorem badI_n (n : Int) : badI (nI n) = bigN n := by simp [badI, nI, bigN]
theorem badI_t (s : List UInt8) : badI (tI s) = false := by simp [badI, tI]
theorem badI_f (b : Bool) : badI (fI b) = false := by simp [badI, fI]
theorem big_len {n : Nat} (h : n ≤ 2097152) : bigN (n : Int) = false := by simp [bigN]; omega
theorem head_of {x : An} (h : okHead x = true) : okIds x.client x.seq = true ∧ 0 ≤ x.err ∧ x.err ≤ 255 := by
 simp only [okHead, Bool.and_eq_true, Bool.not_eq_true', decide_eq_false_iff_not] at h
 exact ⟨h.1.1, by omega, by omega⟩
theorem head_big {x : An} (h : okHead x = true) : bigN x.client = false ∧ bigN x.seq = false ∧ bigN x.err = false := by
 obtain ⟨h1, h2, h3⟩ := head_of h
 have := okIds_iff.1 h1
 simp [bigN]
 omega
theorem prs_bad (l : List Pr) : (l.flatMap prIts).any badI = (l.flatMap prNums).any bigN := by
 induction l with
 | nil => rfl
 | cons p l ih => simp only [List.flatMap_cons, List.any_append, ih, prIts, prNums, List.any_cons, List.any_nil, badI_n, badI_t, Bool.false_or, Bool.or_false]
theorem ots_bad (l : List Ot) (h : ∀ o ∈ l, o.pairs.length ≤ 2097152) : (l.flatMap otIts).any badI = (l.flatMap otNums).any bigN := by
 induction l with
 | nil => rfl
 | cons o l ih =>
  simp only [List.flatMap_cons, List.any_append, ih (fun x hx => h x (by simp [hx])), otIts, otNums, List.any_cons, List.any_nil, badI_n, badI_f, prs_bad, big_len (h o (by simp)), Bool.false_or, Bool.or_false]
  cases bigN o.count <;> cases (o.pairs.flatMap prNums).any bigN <;> simp
theorem refAB_enc (x : An) (h : LenA x) : refAB x = encA x := by
 unfold refAB encA
 cases hh : okHead x with
 | false => rfl
 | true =>
  obtain ⟨b1, b2, b3⟩ := head_big hh
  have : (ansIts x).any badI = (numsA x).any bigN := by
   simp only [ansIts, otsIts, numsA, List.any_cons, List.any_append, List.any_nil, badI_n, badI_t, badI_f, b1, b2, b3, big_len h.o, ots_bad _ h.p, Bool.false_or, Bool.or_false]
  rw [this]
theorem its_okA (x : An) (h1 : okHead x = true) (h2 : (numsA x).any bigN = false) (h : LenA x) : ∀ y ∈ ansIts x, y.k = 0 → okNum y.n = true := by
 have : (ansIts x).any badI = false := by
  obtain ⟨b1, b2, b3⟩ := head_big h1
  rw [← h2]
  simp only [ansIts, otsIts, numsA, List.any_cons, List.any_append, List.any_nil, badI_n, badI_t, badI_f, b1, b2, b3, big_len h.o, ots_bad _ h.p, Bool.false_or, Bool.or_false]
 intro y hy hk
 simp only [List.any_eq_false, Bool.not_eq_true] at this
 have := this y hy
 refine okNum_iff.2 ?_
 simp [badI, hk] at this
 omega
/-- What is right: it has bytes. -/
def rightA (x : An) : Bool := okHead x && !((numsA x).any bigN) && decide ((ansB x).length ≤ 2097152)
theorem rightA_of {x : An} (h : rightA x = true) : okHead x = true ∧ (numsA x).any bigN = false ∧ (ansB x).length ≤ 2097152 := by
 simpa [rightA, and_assoc] using h
theorem prs_lenB (l : List Pr) : l.length ≤ (itsB (l.flatMap prIts)).length := by
 induction l with
 | nil => simp
 | cons c l ih =>
  rw [List.flatMap_cons, itsB_app, List.length_append, List.length_cons]
  have : 1 ≤ (itsB (prIts c)).length := by simp only [prIts, itsB_cons, tI_B, List.length_append, numB, List.length_cons]; omega
  omega
theorem ot_lenB (o : Ot) : o.pairs.length + 1 ≤ (itsB (otIts o)).length := by
 have := prs_lenB o.pairs
 simp only [otIts, itsB_cons, itsB_app, nI_B, List.length_append, numB, List.length_cons]
 omega
theorem ots_lenB (l : List Ot) : l.length ≤ (itsB (l.flatMap otIts)).length ∧ ∀ o ∈ l, o.pairs.length ≤ (itsB (l.flatMap otIts)).length := by
 induction l with
 | nil => simp
 | cons c l ih =>
  have h1 := ot_lenB c
  rw [List.flatMap_cons, itsB_app, List.length_append, List.length_cons]
  refine ⟨by omega, fun o ho => ?_⟩
  rcases List.mem_cons.1 ho with rfl | ho
  ·omega
  ·have := ih.2 o ho
   omega
end Go.Proofs.Ytjfaplmojpldhaa
namespace Go.Proofs.Ytjfaplmojpldhaa
open Go.RowKit
set_option linter.unusedSimpArgs false
set_option linter.unusedVariables false
set_option maxRecDepth 100000

def stopP (st : RS) : Bool := decide (st.s.length = 0)
def stopR (st : RS) : Bool := st.bad
def prR (m : Int) (st : RS) : Pr × RS := (⟨(rtext st m).1, (rtext (rtext st m).2 m).1, (rnum (rtext (rtext st m).2 m).2).1, (rnum (rnum (rtext (rtext st m).2 m).2).2).1⟩, (rnum (rnum (rtext (rtext st m).2 m).2).2).2)
def prsR (stop : RS → Bool) (m : Int) : Nat → List Pr → RS → List Pr × RS
 | 0, l, st => (l, st)
 | n + 1, l, st => if stop st = true then (l, st) else prsR stop m n (l ++ [(prR m st).1]) (prR m st).2
def rdPrs (stop : RS → Bool) (m : Int) (st : RS) : List Pr × RS := prsR stop m (rnum st).1.toNat [] (rnum st).2
def otR (stop : RS → Bool) (m : Int) (st : RS) : Ot × RS := (⟨(rdPrs stop m st).1, (rflag (rdPrs stop m st).2).1, (rnum (rflag (rdPrs stop m st).2).2).1⟩, (rnum (rflag (rdPrs stop m st).2).2).2)
def otsR (stop : RS → Bool) (m : Int) : Nat → List Ot → RS → List Ot × RS
 | 0, l, st => (l, st)
 | n + 1, l, st => if stop st = true then (l, st) else otsR stop m n (l ++ [(otR stop m st).1]) (otR stop m st).2
def rdOts (stop : RS → Bool) (m : Int) (st : RS) : List Ot × RS := otsR stop m (rnum st).1.toNat [] (rnum st).2
/-- What stands behind the head. -/
def tailA (stop : RS → Bool) (m : Int) (c q e r : Int) (y : Bool) (st : RS) : An × RS := (⟨c, q, e, r, y, (rdOts stop m st).1, (rtext (rdOts stop m st).2 m).1⟩, (rtext (rdOts stop m st).2 m).2)
def readA (stop : RS → Bool) (m : Int) (st : RS) : An × RS :=
 tailA stop m (rnum st).1 (rnum (rnum st).2).1 (upto (rnum (rnum st).2).2 255).1 (rnum (upto (rnum (rnum st).2).2 255).2).1 (rflag (rnum (upto (rnum (rnum st).2).2 255).2).2).1 (rflag (rnum (upto (rnum (rnum st).2).2 255).2).2).2
structure PrOk (p : Pr) : Prop where
 made : okNum p.made = true
 rev : okNum p.rev = true
structure OtOk (o : Ot) : Prop where
 count : okNum o.count = true
 prs : ∀ p ∈ o.pairs, PrOk p
theorem textA_back (t r : List UInt8) (m : Int) (h : t.length ≤ 2097152) (hm : 2097152 ≤ m) : rtext ⟨numB t.length ++ (t ++ r), false⟩ m = (t, ⟨r, false⟩) := by
 rw [← List.append_assoc]
 exact text_back t r m (by omega) (by omega)
theorem okLenA {n : Nat} (h : n ≤ 2097152) : okNum (n : Int) = true := okNum_iff.2 ⟨by omega, by omega⟩
section
variable {stop : RS → Bool} (hs : ∀ s, s ≠ [] → stop ⟨s, false⟩ = false) {m : Int} (hm : 2097152 ≤ m)
theorem pr_back (p : Pr) (r : List UInt8) (m : Int) (hm : 2097152 ≤ m) (h : PrOk p) (hl : (itsB (prIts p)).length ≤ 2097152) : prR m ⟨itsB (prIts p) ++ r, false⟩ = (p, ⟨r, false⟩) := by
 simp only [prIts, itsB_cons, itsB_nil, nI_B, tI_B, List.length_append] at hl
 simp only [prIts, itsB_cons, itsB_nil, nI_B, tI_B, List.append_assoc, List.nil_append]
 unfold prR
 rw [textA_back _ _ _ (by omega) hm]
 simp only
 rw [textA_back _ _ _ (by omega) hm]
 simp only
 rw [numQ_back _ _ h.made]
 simp only
 rw [numQ_back _ _ h.rev]
include hs hm
theorem prs_back (l : List Pr) (acc : List Pr) (r : List UInt8) (h : ∀ p ∈ l, PrOk p) (hl : (itsB (l.flatMap prIts)).length ≤ 2097152) : prsR stop m l.length acc ⟨itsB (l.flatMap prIts) ++ r, false⟩ = (acc ++ l, ⟨r, false⟩) := by
 induction l generalizing acc with
 | nil => simp [prsR, itsB_nil]
 | cons d l ih =>
  rw [List.flatMap_cons, itsB_app, List.length_append] at hl
  rw [List.flatMap_cons, itsB_app, List.append_assoc, List.length_cons]
  unfold prsR
  rw [if_neg (by rw [hs _ (by rw [prIts, itsB_cons, tI_B]; simp [numB])]; simp), pr_back d _ m hm (h d (by simp)) (by omega)]
  rw [ih _ (fun x hx => h x (by simp [hx])) (by omega)]
  simp
theorem ot_back (o : Ot) (r : List UInt8) (h : OtOk o) (hl : (itsB (otIts o)).length ≤ 2097152) : otR stop m ⟨itsB (otIts o) ++ r, false⟩ = (o, ⟨r, false⟩) := by
 have hp := ot_lenB o
 have hl0 := hl
 simp only [otIts, itsB_cons, itsB_app, itsB_nil, nI_B, fI_B, List.length_append] at hl
 simp only [otIts, itsB_cons, itsB_app, itsB_nil, nI_B, fI_B, List.append_assoc, List.nil_append]
 unfold otR rdPrs
 rw [numQ_back _ _ (okLenA (by omega))]
 simp only [Int.toNat_natCast]
 have hb := prs_back hs hm o.pairs [] (numB (if o.more = true then 1 else 0) ++ (numB o.count.toNat ++ r)) h.prs (by omega)
 rw [hb]
 simp only [List.nil_append]
 rw [flag_back]
 simp only
 rw [numQ_back _ _ h.count]
theorem ots_back (l : List Ot) (acc : List Ot) (r : List UInt8) (h : ∀ p ∈ l, OtOk p) (hl : (itsB (l.flatMap otIts)).length ≤ 2097152) : otsR stop m l.length acc ⟨itsB (l.flatMap otIts) ++ r, false⟩ = (acc ++ l, ⟨r, false⟩) := by
 induction l generalizing acc with
 | nil => simp [otsR, itsB_nil]
 | cons d l ih =>
  rw [List.flatMap_cons, itsB_app, List.length_append] at hl
  rw [List.flatMap_cons, itsB_app, List.append_assoc, List.length_cons]
  unfold otsR
  rw [if_neg (by rw [hs _ (by rw [otIts, itsB_cons, nI_B]; simp [numB])]; simp), ot_back hs hm d _ (h d (by simp)) (by omega)]
  rw [ih _ (fun x hx => h x (by simp [hx])) (by omega)]
  simp
omit hs hm in
theorem nums_ok {x : An} (h : (numsA x).any bigN = false) : okNum x.rev = true ∧ ∀ o ∈ x.outs, OtOk o := by
 simp only [numsA, otNums, prNums, List.any_eq_false, Bool.not_eq_true, List.mem_cons, List.mem_flatMap, List.not_mem_nil, or_false] at h
 have g : ∀ n, bigN n = false → okNum n = true := fun n hn => by simp [okNum, hn]
 exact ⟨g _ (h _ (.inl rfl)), fun o ho => ⟨g _ (h _ (.inr ⟨o, ho, .inl rfl⟩)), fun p hp => ⟨g _ (h _ (.inr ⟨o, ho, .inr ⟨p, hp, .inl rfl⟩⟩)), g _ (h _ (.inr ⟨o, ho, .inr ⟨p, hp, .inr rfl⟩⟩))⟩⟩⟩
omit hs hm in
theorem nums_to {x : An} (h1 : okNum x.rev = true) (h2 : ∀ o ∈ x.outs, OtOk o) : (numsA x).any bigN = false := by
 have g : ∀ n, okNum n = true → bigN n = false := fun n hn => by simpa [okNum] using hn
 simp only [numsA, otNums, prNums, List.any_eq_false, Bool.not_eq_true, List.mem_cons, List.mem_flatMap, List.not_mem_nil, or_false]
 rintro n (rfl | ⟨o, ho, rfl | ⟨p, hp, rfl | rfl⟩⟩)
 ·exact g _ h1
 ·exact g _ (h2 o ho).count
 ·exact g _ ((h2 o ho).prs p hp).made
 ·exact g _ ((h2 o ho).prs p hp).rev
theorem readA_back (x : An) (r : List UInt8) (h : rightA x = true) : readA stop m ⟨ansB x ++ r, false⟩ = (x, ⟨r, false⟩) := by
 obtain ⟨h1, h2, h3⟩ := rightA_of h
 obtain ⟨n1, n2⟩ := nums_ok h2
 obtain ⟨i1, i2, i3⟩ := head_of h1
 have i4 := ids_num i1
 have i5 : okNum x.err = true := okNum_iff.2 ⟨i2, by omega⟩
 obtain ⟨client, seq, err, rev, yes, outs, token⟩ := x
 simp only at n1 n2 i2 i3 i4 i5
 have l3 := ots_lenB outs
 simp only [ansB, ansIts, otsIts, itsB_cons, itsB_app, itsB_nil, nI_B, fI_B, tI_B, List.length_append] at h3
 simp only [ansB, ansIts, otsIts, itsB_cons, itsB_app, itsB_nil, nI_B, fI_B, tI_B, List.append_assoc, List.nil_append]
 unfold readA
 simp only [numQ_back _ _ i4.1, numQ_back _ _ i4.2, uptoQ_back _ _ 255 i5 i3, numQ_back _ _ n1, flag_back]
 unfold tailA rdOts
 have e1 := fun r => numQ_back (outs.length : Int) r (okLenA (by omega))
 simp only [Int.toNat_natCast] at e1 ⊢
 have hb := ots_back hs hm outs [] (numB token.length ++ (token ++ r)) n2 (by omega)
 simp only [e1, Int.toNat_natCast, hb, List.nil_append]
 rw [textA_back _ _ _ (by omega) hm]
end
theorem stopP_ne (s : List UInt8) (h : s ≠ []) : stopP ⟨s, false⟩ = false := by
 cases s with
 | nil => exact absurd rfl h
 | cons a l => simp [stopP]
theorem stopR_ne (s : List UInt8) (h : s ≠ []) : stopR ⟨s, false⟩ = false := rfl
/-! ### what was read -/
theorem pr_was {st : RS} {m : Int} {r : List UInt8} (h : (prR m st).2 = ⟨r, false⟩) : st = ⟨itsB (prIts (prR m st).1) ++ r, false⟩ ∧ PrOk (prR m st).1 := by
 unfold prR at h ⊢
 simp only at h ⊢
 obtain ⟨e1, o1⟩ := numQ_w h
 obtain ⟨e2, o2⟩ := numQ_w e1
 have e3 := textQ_w e2
 have e4 := textQ_w e3
 refine ⟨?_, ⟨o2, o1⟩⟩
 simp only [prIts, itsB_cons, itsB_nil, nI_B, tI_B, List.append_assoc, List.nil_append]
 exact e4
theorem prs_was (m : Int) (n : Nat) (l : List Pr) (st : RS) (r : List UInt8) (hr : r ≠ []) (h : (prsR stopP m n l st).2 = ⟨r, false⟩) : ∃ k : List Pr, (prsR stopP m n l st).1 = l ++ k ∧ k.length = n ∧ st = ⟨itsB (k.flatMap prIts) ++ r, false⟩ ∧ ∀ d ∈ k, PrOk d := by
 induction n generalizing l st with
 | zero => exact ⟨[], by simp [prsR], rfl, by simpa [prsR, itsB_nil] using h, by simp⟩
 | succ n ih =>
  unfold prsR at h ⊢
  split at h
  ·rename_i hc
   simp only at h
   rw [h] at hc
   simp [stopP] at hc
   exact absurd hc hr
  ·rename_i hc
   rw [if_neg hc]
   obtain ⟨k, e1, e2, e3, e4⟩ := ih _ _ h
   obtain ⟨g1, g2⟩ := pr_was e3
   refine ⟨(prR m st).1 :: k, by rw [e1]; simp, by simp [e2], ?_, by simpa using ⟨g2, e4⟩⟩
   rw [List.flatMap_cons, itsB_app, List.append_assoc]
   exact g1
theorem ot_was {st : RS} {m : Int} {r : List UInt8} (h : (otR stopP m st).2 = ⟨r, false⟩) : st = ⟨itsB (otIts (otR stopP m st).1) ++ r, false⟩ ∧ OtOk (otR stopP m st).1 := by
 unfold otR at h ⊢
 simp only at h ⊢
 obtain ⟨e1, o1⟩ := numQ_w h
 have e2 := flagQ_w e1
 obtain ⟨k, q1, q2, q3, q4⟩ := prs_was _ _ _ _ _ (by simp [numB]) (show (prsR stopP m (rnum st).1.toNat [] (rnum st).2).2 = _ from e2)
 obtain ⟨g1, g2⟩ := numQ_w q3
 have g0 := okNum_iff.1 g2
 have q1' : (rdPrs stopP m st).1 = k := by rw [List.nil_append] at q1; exact q1
 rw [q1']
 refine ⟨?_, ⟨o1, q4⟩⟩
 simp only [otIts, itsB_cons, itsB_app, itsB_nil, nI_B, fI_B, q2, Int.toNat_natCast, List.append_assoc, List.nil_append]
 exact g1
theorem ots_was (m : Int) (n : Nat) (l : List Ot) (st : RS) (r : List UInt8) (hr : r ≠ []) (h : (otsR stopP m n l st).2 = ⟨r, false⟩) : ∃ k : List Ot, (otsR stopP m n l st).1 = l ++ k ∧ k.length = n ∧ st = ⟨itsB (k.flatMap otIts) ++ r, false⟩ ∧ ∀ d ∈ k, OtOk d := by
 induction n generalizing l st with
 | zero => exact ⟨[], by simp [otsR], rfl, by simpa [otsR, itsB_nil] using h, by simp⟩
 | succ n ih =>
  unfold otsR at h ⊢
  split at h
  ·rename_i hc
   simp only at h
   rw [h] at hc
   simp [stopP] at hc
   exact absurd hc hr
  ·rename_i hc
   rw [if_neg hc]
   obtain ⟨k, e1, e2, e3, e4⟩ := ih _ _ h
   obtain ⟨g1, g2⟩ := ot_was e3
   refine ⟨(otR stopP m st).1 :: k, by rw [e1]; simp, by simp [e2], ?_, by simpa using ⟨g2, e4⟩⟩
   rw [List.flatMap_cons, itsB_app, List.append_assoc]
   exact g1
theorem readA_was {st : RS} {m : Int} {r : List UInt8} (h : (readA stopP m st).2 = ⟨r, false⟩) : st = ⟨ansB (readA stopP m st).1 ++ r, false⟩ ∧ okNum (readA stopP m st).1.rev = true ∧ (∀ o ∈ (readA stopP m st).1.outs, OtOk o) ∧ 0 ≤ (readA stopP m st).1.err ∧ (readA stopP m st).1.err ≤ 255 := by
 unfold readA tailA at h ⊢
 simp only at h ⊢
 have e1 := textQ_w h
 obtain ⟨k, q1, q2, q3, q4⟩ := ots_was m _ _ _ _ (by simp [numB]) (show (otsR stopP m _ [] _).2 = _ from e1)
 obtain ⟨g1, g2⟩ := numQ_w q3
 have g0 := okNum_iff.1 g2
 have e2 := flagQ_w g1
 obtain ⟨e3, o3⟩ := numQ_w e2
 obtain ⟨e4, o4, o5⟩ := uptoQ_w e3
 obtain ⟨e5, o6⟩ := numQ_w e4
 obtain ⟨e6, o7⟩ := numQ_w e5
 have o4' := okNum_iff.1 o4
 have q1' : (rdOts stopP m (rflag (rnum (upto (rnum (rnum st).2).2 255).2).2).2).1 = k := by rw [List.nil_append] at q1; exact q1
 rw [q1']
 refine ⟨?_, o3, q4, o4'.1, o5⟩
 simp only [ansB, ansIts, otsIts, itsB_cons, itsB_app, itsB_nil, nI_B, fI_B, tI_B, q2, Int.toNat_natCast, List.append_assoc, List.nil_append]
 exact e6
def decA (s : List UInt8) : Option An :=
 if 2097152 < s.length then none
 else if rend (readA stopP 2097152 ⟨s, false⟩).2 = 0 ∧ okIds (readA stopP 2097152 ⟨s, false⟩).1.client (readA stopP 2097152 ⟨s, false⟩).1.seq = true then some (readA stopP 2097152 ⟨s, false⟩).1 else none
theorem rendA_nil {st : RS} (h : rend st = 0) : st = ⟨[], false⟩ := by
 obtain ⟨q, b⟩ := st
 unfold rend at h
 simp only at h
 split at h
 ·simp at h
 ·rename_i g
  simp at g
  obtain ⟨rfl, g2⟩ := g
  have : q = [] := by cases q; rfl; simp at g2
  rw [this]
theorem decA_some {s : List UInt8} {x : An} (h : decA s = some x) : rightA x = true ∧ s = ansB x := by
 unfold decA at h
 split at h
 ·simp at h
 ·rename_i hl
  split at h
  ·rename_i hh
   injection h with h
   obtain ⟨g1, g2, g3, g4, g5⟩ := readA_was (rendA_nil hh.1)
   rw [h] at g1 g2 g3 g4 g5 hh
   rw [List.append_nil] at g1
   injection g1 with g1
   refine ⟨?_, g1⟩
   rw [g1] at hl
   have n := nums_to g2 g3
   simp only [rightA, okHead, hh.2, n, Bool.true_and, Bool.not_false, Bool.and_true, Bool.and_eq_true, Bool.not_eq_true', decide_eq_false_iff_not, decide_eq_true_eq]
   exact ⟨⟨by omega, by omega⟩, by omega⟩
  ·simp at h
theorem decA_right {x : An} (h : rightA x = true) : decA (ansB x) = some x := by
 have hb := readA_back (stop := stopP) stopP_ne (m := 2097152) (by omega) x [] h
 rw [List.append_nil] at hb
 obtain ⟨h1, h2, h3⟩ := rightA_of h
 unfold decA
 rw [if_neg (by omega), hb, if_pos ⟨by simp [rend], (head_of h1).1⟩]
theorem lenA_of {x : An} (h : (ansB x).length ≤ 2097152) : LenA x := by
 have l := ots_lenB x.outs
 simp only [ansB, ansIts, otsIts, itsB_cons, itsB_app, List.length_append] at h
 exact ⟨by omega, fun o ho => by have := l.2 o ho; omega⟩
theorem encA_right {x : An} (h : rightA x = true) : encA x = (ansB x, 0) := by
 obtain ⟨h1, h2, h3⟩ := rightA_of h
 unfold encA
 rw [if_neg (by rw [h1]; simp), if_neg (by rw [h2]; simp), written_ok _ _ (its_okA x h1 h2 (lenA_of h3)) (by simp only [List.length_nil, Nat.zero_add]; exact h3)]
 rfl
theorem encA_some {x : An} {s : List UInt8} (h : encA x = (s, 0)) : rightA x = true ∧ s = ansB x := by
 unfold encA at h
 split at h
 ·simp at h
 ·split at h
  ·simp at h
  ·rename_i h1 h2
   have w := written_whole _ _ _ h
   have e : s = ansB x := by rw [w.1]; simp [ansB, itsB, List.flatMap]
   refine ⟨?_, e⟩
   have hl := w.2.1
   rw [e] at hl
   rw [rightA]
   simp only [Bool.not_eq_false] at h1
   simp only [Bool.not_eq_true] at h2
   simp only [h1, h2, Bool.not_false, Bool.and_self, Bool.true_and, decide_eq_true_eq]
   simpa using hl
end Go.Proofs.Ytjfaplmojpldhaa
