/-
  Answers as plain Lean, and in memory: the model, the things that are written, what is read. No condition but those stated.
-/
import Derived.Test.YtjfaplmojpldhaaReqPlain6
namespace Go.Proofs.Ytjfaplmojpldhaa
open Go.RowKit
set_option linter.unusedSimpArgs false
set_option linter.unusedVariables false
set_option maxRecDepth 100000

structure Pr where
  key : List UInt8
  val : List UInt8
  made : Int
  rev : Int
structure Ot where
  pairs : List Pr
  more : Bool
  count : Int
structure An where
  client : Int
  seq : Int
  err : Int
  rev : Int
  yes : Bool
  outs : List Ot
  token : List UInt8
def anZ : An := ⟨0, 0, 0, 0, false, [], []⟩
/-- An out in memory: where its pairs stand. -/
structure Om where
  o : Ot
  a : Option Addr
  c : Nat
def prc (p : Pr) : List Value := [Str p.key, Str p.val, .int .i64 p.made, .int .i64 p.rev]
def prcs (l : List Pr) : List Value := l.flatMap prc
def omc (m : Om) : List Value := [.slice m.a m.o.pairs.length m.c, .bool m.o.more, .int .i64 m.o.count]
def omcs (l : List Om) : List Value := l.flatMap omc
def anc (x : An) (s : Value) : List Value := [.int .i64 x.client, .int .i64 x.seq, .int .i64 x.err, .int .i64 x.rev, .bool x.yes, s, Str x.token]
abbrev anV (x : An) (s : Value) : Value := .agg #[.int .i64 x.client, .int .i64 x.seq, .int .i64 x.err, .int .i64 x.rev, .bool x.yes, s, Str x.token]
theorem prc_len (p : Pr) : (prc p).length = 4 := rfl
theorem omc_len (p : Om) : (omc p).length = 3 := rfl
theorem prcs_len (l : List Pr) : (prcs l).length = l.length * 4 := flat_len prc 4 prc_len l
theorem omcs_len (l : List Om) : (omcs l).length = l.length * 3 := flat_len omc 3 omc_len l
theorem prcs_one (l : List Pr) : ∀ u ∈ prcs l, u.oneCell' = true := fl_one prc (fun d u hu => by simp [prc] at hu; rcases hu with rfl | rfl | rfl | rfl <;> rfl) l
theorem omcs_one (l : List Om) : ∀ u ∈ omcs l, u.oneCell' = true := fl_one omc (fun d u hu => by simp [omc] at hu; rcases hu with rfl | rfl | rfl <;> rfl) l
theorem prcs_app (l m : List Pr) : prcs (l ++ m) = prcs l ++ prcs m := by simp [prcs]
theorem omcs_app (l m : List Om) : omcs (l ++ m) = omcs l ++ omcs m := by simp [omcs]
theorem rd_pr {w : World} {l : List Pr} {g off : Nat} {sp n} (h : Rd w 4 (some ⟨g, off, sp⟩) n (prcs l)) {k : Nat} {d : Pr} (hx : l[k]? = some d) :
    w.cell? ⟨g, off + k * 4, none⟩ = some (Str d.key) ∧ w.cell? ⟨g, off + k * 4 + 1, none⟩ = some (Str d.val) ∧ w.cell? ⟨g, off + k * 4 + 2, none⟩ = some (.int .i64 d.made) ∧ w.cell? ⟨g, off + k * 4 + 3, none⟩ = some (.int .i64 d.rev) :=
  ⟨rd_fl prc 4 prc_len h hx 0 (by omega) _ rfl, rd_fl prc 4 prc_len h hx 1 (by omega) _ rfl, rd_fl prc 4 prc_len h hx 2 (by omega) _ rfl, rd_fl prc 4 prc_len h hx 3 (by omega) _ rfl⟩
theorem rd_om {w : World} {l : List Om} {g off : Nat} {sp n} (h : Rd w 3 (some ⟨g, off, sp⟩) n (omcs l)) {k : Nat} {d : Om} (hx : l[k]? = some d) :
    w.cell? ⟨g, off + k * 3, none⟩ = some (.slice d.a d.o.pairs.length d.c) ∧ w.cell? ⟨g, off + k * 3 + 1, none⟩ = some (.bool d.o.more) ∧ w.cell? ⟨g, off + k * 3 + 2, none⟩ = some (.int .i64 d.o.count) :=
  ⟨rd_fl omc 3 omc_len h hx 0 (by omega) _ rfl, rd_fl omc 3 omc_len h hx 1 (by omega) _ rfl, rd_fl omc 3 omc_len h hx 2 (by omega) _ rfl⟩
/-- Outs that can be read. -/
structure RdO (w : World) (a : Option Addr) (m : List Om) : Prop where
  row : Rd w 3 a m.length (omcs m)
  prs : ∀ x ∈ m, Rd w 4 x.a x.o.pairs.length (prcs x.o.pairs)
theorem RdO.step {w w' : World} {a : Option Addr} {m : List Om} {S' : List Nat} (h : RdO w a m) (k : Step [] S' w w') : RdO w' a m := ⟨h.row.step0 k, fun x hx => (h.prs x hx).step0 k⟩
theorem RdO.nil (w : World) : RdO w none [] := ⟨(Row.none w 3).rd, by simp⟩
/-- How many there are, at most. -/
structure LenA (x : An) : Prop where
  o : x.outs.length ≤ 2097152
  p : ∀ o ∈ x.outs, o.pairs.length ≤ 2097152
structure PrB (p : Pr) : Prop where
  made : p.made < 9223372036854775808
  rev : p.rev < 9223372036854775808
  key : p.key.length ≤ 562949953421312
  val : p.val.length ≤ 562949953421312
structure OtB (o : Ot) : Prop where
  count : o.count < 9223372036854775808
  prs : ∀ p ∈ o.pairs, PrB p
structure AnB (x : An) : Prop where
  client : x.client < 9223372036854775808
  seq : x.seq < 9223372036854775808
  err : x.err < 9223372036854775808
  rev : x.rev < 9223372036854775808
  token : x.token.length ≤ 562949953421312
  outs : ∀ o ∈ x.outs, OtB o
/-! ### what is written -/
def prIts (p : Pr) : List It := [tI p.key, tI p.val, nI p.made, nI p.rev]
def otIts (o : Ot) : List It := nI o.pairs.length :: (o.pairs.flatMap prIts ++ [fI o.more, nI o.count])
def otsIts (l : List Ot) : List It := nI l.length :: l.flatMap otIts
def ansIts (x : An) : List It := nI x.client :: nI x.seq :: nI x.err :: nI x.rev :: fI x.yes :: (otsIts x.outs ++ [tI x.token])
def ansB (x : An) : List UInt8 := itsB (ansIts x)
def prNums (p : Pr) : List Int := [p.made, p.rev]
def otNums (o : Ot) : List Int := o.count :: o.pairs.flatMap prNums
def numsA (x : An) : List Int := x.rev :: x.outs.flatMap otNums
def okHead (x : An) : Bool := okIds x.client x.seq && !(decide (x.err < 0)) && !(decide (255 < x.err))
def encA (x : An) : List UInt8 × Int :=
  if okHead x = false then ([], 1) else if (numsA x).any bigN = true then ([], 1) else written [] (ansIts x)
def refAB (x : An) : List UInt8 × Int :=
  if okHead x = false then ([], 1) else if (ansIts x).any badI = true then ([], 1) else written [] (ansIts x)
theorem badI_n (n : Int) : badI (nI n) = bigN n := by simp [badI, nI, bigN]
theorem badI_t (s : List UInt8) : badI (tI s) = false := by simp [badI, tI]
theorem badI_f (b : Bool) : badI (fI b) = false := by simp [badI, fI]
theorem big_len {n : Nat} (h : n ≤ 2097152) : bigN (n : Int) = false := by simp [bigN]; omega
theorem head_of {x : An} (h : okHead x = true) : okIds x.client x.seq = true ∧ 0 ≤ x.err ∧ x.err ≤ 255 := by
  simp only [okHead, Bool.and_eq_true, Bool.not_eq_true', decide_eq_false_iff_not] at h
  exact ⟨h.1.1, by omega, by omega⟩
theorem head_big {x : An} (h : okHead x = true) : bigN x.client = false ∧ bigN x.seq = false ∧ bigN x.err = false := by
  obtain ⟨h1, h2, h3⟩ := head_of h
  have := okIds_iff.1 h1
  simp [bigN]
  omega
theorem prs_bad (l : List Pr) : (l.flatMap prIts).any badI = (l.flatMap prNums).any bigN := by
  induction l with
  | nil => rfl
  | cons p l ih => simp only [List.flatMap_cons, List.any_append, ih, prIts, prNums, List.any_cons, List.any_nil, badI_n, badI_t, Bool.false_or, Bool.or_false]
theorem ots_bad (l : List Ot) (h : ∀ o ∈ l, o.pairs.length ≤ 2097152) : (l.flatMap otIts).any badI = (l.flatMap otNums).any bigN := by
  induction l with
  | nil => rfl
  | cons o l ih =>
    simp only [List.flatMap_cons, List.any_append, ih (fun x hx => h x (by simp [hx])), otIts, otNums, List.any_cons, List.any_nil, badI_n, badI_f, prs_bad, big_len (h o (by simp)), Bool.false_or, Bool.or_false]
    cases bigN o.count <;> cases (o.pairs.flatMap prNums).any bigN <;> simp
theorem refAB_enc (x : An) (h : LenA x) : refAB x = encA x := by
  unfold refAB encA
  cases hh : okHead x with
  | false => rfl
  | true =>
    obtain ⟨b1, b2, b3⟩ := head_big hh
    have : (ansIts x).any badI = (numsA x).any bigN := by
      simp only [ansIts, otsIts, numsA, List.any_cons, List.any_append, List.any_nil, badI_n, badI_t, badI_f, b1, b2, b3, big_len h.o, ots_bad _ h.p, Bool.false_or, Bool.or_false]
    rw [this]
theorem its_okA (x : An) (h1 : okHead x = true) (h2 : (numsA x).any bigN = false) (h : LenA x) : ∀ y ∈ ansIts x, y.k = 0 → okNum y.n = true := by
  have : (ansIts x).any badI = false := by
    obtain ⟨b1, b2, b3⟩ := head_big h1
    rw [← h2]
    simp only [ansIts, otsIts, numsA, List.any_cons, List.any_append, List.any_nil, badI_n, badI_t, badI_f, b1, b2, b3, big_len h.o, ots_bad _ h.p, Bool.false_or, Bool.or_false]
  intro y hy hk
  simp only [List.any_eq_false, Bool.not_eq_true] at this
  have := this y hy
  refine okNum_iff.2 ?_
  simp [badI, hk] at this
  omega
/-- What is right: it has bytes. -/
def rightA (x : An) : Bool := okHead x && !((numsA x).any bigN) && decide ((ansB x).length ≤ 2097152)
theorem rightA_of {x : An} (h : rightA x = true) : okHead x = true ∧ (numsA x).any bigN = false ∧ (ansB x).length ≤ 2097152 := by
  simpa [rightA, and_assoc] using h
theorem prs_lenB (l : List Pr) : l.length ≤ (itsB (l.flatMap prIts)).length := by
  induction l with
  | nil => simp
  | cons c l ih =>
    rw [List.flatMap_cons, itsB_app, List.length_append, List.length_cons]
    have : 1 ≤ (itsB (prIts c)).length := by simp only [prIts, itsB_cons, tI_B, List.length_append, numB, List.length_cons]; omega
    omega
theorem ot_lenB (o : Ot) : o.pairs.length + 1 ≤ (itsB (otIts o)).length := by
  have := prs_lenB o.pairs
  simp only [otIts, itsB_cons, itsB_app, nI_B, List.length_append, numB, List.length_cons]
  omega
theorem ots_lenB (l : List Ot) : l.length ≤ (itsB (l.flatMap otIts)).length ∧ ∀ o ∈ l, o.pairs.length ≤ (itsB (l.flatMap otIts)).length := by
  induction l with
  | nil => simp
  | cons c l ih =>
    have h1 := ot_lenB c
    rw [List.flatMap_cons, itsB_app, List.length_append, List.length_cons]
    refine ⟨by omega, fun o ho => ?_⟩
    rcases List.mem_cons.1 ho with rfl | ho
    · omega
    · have := ih.2 o ho
      omega
end Go.Proofs.Ytjfaplmojpldhaa
