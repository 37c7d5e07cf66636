/-
 Chapter 24's Op: what it holds, in memory, as it comes in; what is heard in one. No condition but those stated.
-/
import Derived.Test.YtjfaplmojpldhaaZAnsRef
import Derived.Test.YtjfaplmojpldhaaZCliPlain
import Derived.Test.YtjfaplmojpldhaaZReqOpen
import Derived.Deep.MidRow
namespace Go.Proofs.Ytjfaplmojpldhaa
open Go.RowKit Go.ChangeShapes Go.WideShapes Go.ChangeAt
set_option linter.unusedSimpArgs false
set_option linter.unusedVariables false
set_option maxRecDepth 100000

structure Oq where
 k : Int
 cmd : Cm
 a1 : Option Addr
 c1 : Nat
 a2 : Option Addr
 c2 : Nat
 a3 : Option Addr
 c3 : Nat
 text : List UInt8
 ans : An
 m : List Om
 a : Option Addr
 c : Nat
 err : Int
 lead : Int
def oqc (x : Oq) : List Value := [.int .i64 x.k, .int .i64 x.cmd.client, .int .i64 x.cmd.seq, Str x.cmd.token, .int .i64 x.cmd.kind, Str x.cmd.name, Str x.cmd.other, Str x.cmd.word, Str x.cmd.salt, .int .i64 x.cmd.bytes, .int .i64 x.cmd.keys, Str x.cmd.gf, Str x.cmd.gt, .bool x.cmd.gr, .bool x.cmd.gw, .int .i64 x.cmd.rev, .slice x.a1 x.cmd.ifs.length x.c1, .slice x.a2 x.cmd.thens.length x.c2, .slice x.a3 x.cmd.elses.length x.c3, Str x.text, .int .i64 x.ans.client, .int .i64 x.ans.seq, .int .i64 x.ans.err, .int .i64 x.ans.rev, .bool x.ans.yes, .slice x.a x.m.length x.c, Str x.ans.token, .int .i64 x.err, .int .i64 x.lead]
abbrev oqV (x : Oq) : Value := .agg #[.int .i64 x.k, .int .i64 x.cmd.client, .int .i64 x.cmd.seq, Str x.cmd.token, .int .i64 x.cmd.kind, Str x.cmd.name, Str x.cmd.other, Str x.cmd.word, Str x.cmd.salt, .int .i64 x.cmd.bytes, .int .i64 x.cmd.keys, Str x.cmd.gf, Str x.cmd.gt, .bool x.cmd.gr, .bool x.cmd.gw, .int .i64 x.cmd.rev, .slice x.a1 x.cmd.ifs.length x.c1, .slice x.a2 x.cmd.thens.length x.c2, .slice x.a3 x.cmd.elses.length x.c3, Str x.text, .int .i64 x.ans.client, .int .i64 x.ans.seq, .int .i64 x.ans.err, .int .i64 x.ans.rev, .bool x.ans.yes, .slice x.a x.m.length x.c, Str x.ans.token, .int .i64 x.err, .int .i64 x.lead]
theorem oqc_len (x : Oq) : (oqc x).length = 29 := rfl
theorem oqc_one (x : Oq) : (oqc x).toArray.all (·.oneCell') = true := by simp [oqc, Value.oneCell']
theorem Try.sOq : StructOf Try.prog 56 29 := ⟨by kernel_rfl, _, Try.underlying56⟩
/-- What stands behind an Op's slices, and its bounds. -/
structure RdQ (w : World) (x : Oq) : Prop where
 rc : RdC w x.cmd x.a1 x.a2 x.a3
 ro : RdO w x.a x.m
theorem RdQ.step {w w' : World} {x : Oq} {S' : List Nat} (h : RdQ w x) (k : Step [] S' w w') : RdQ w' x :=
 ⟨⟨h.rc.i.step0 k, h.rc.t.step0 k, h.rc.e.step0 k⟩, h.ro.step k⟩
structure OqB (x : Oq) : Prop where
 outs : x.m.map (·.o) = x.ans.outs
 cmd : CmB x.cmd
 ans : AnB x.ans
 text : x.text.length ≤ 140737488351232
 err : x.err < 9223372036854775808
 lead : x.lead < 9223372036854775808
theorem Op.fieldN {P : Program} {w : World} {t : TypeId} {cs : List Value} {fs : Array Field} (ht : P.underlying t = some (.struct fs)) (h : Op P w t cs) (i off : Nat) (T : TypeId) (hf : (fs[i]?).map (fun f => (f.offset, f.type)) = some (off, T)) : Op P w T ((cs.drop off).take (P.cellsOf T)) := by
 cases hfi : fs[i]? with
 | none => simp [hfi] at hf
 | some f =>
  simp only [hfi, Option.map_some, Option.some.injEq, Prod.mk.injEq] at hf
  have := (h.struct ht).2 i f hfi
  rwa [hf.1, hf.2] at this
theorem wf_n {x : Int} (h : (Lit.int .i64 x).wf = true) : -9223372036854775808 ≤ x ∧ x < 9223372036854775808 := by
 simp [Lit.wf, IntKind.min, IntKind.max, IntKind.signed, IntKind.bits] at h
 omega
theorem op_pr {w : World} {cs : List Value} (h : Op Try.prog w 115 cs) : ∃ c : Pr, cs = prc c ∧ PrB c := by
 obtain ⟨hl, _⟩ := h.struct Try.underlying115
 rw [show Try.prog.cellsOf 115 = 4 by kernel_rfl] at hl
 obtain ⟨c0, c1, c2, c3, rfl⟩ : ∃ a0 a1 a2 a3, cs = [a0, a1, a2, a3] := by
  match cs, hl with
  | [a0, a1, a2, a3], _ => exact ⟨a0, a1, a2, a3, rfl⟩
 have g0 := h.fieldN Try.underlying115 0 0 9 rfl
 rw [show Try.prog.cellsOf 9 = 1 by kernel_rfl] at g0
 simp only [List.drop_succ_cons, List.drop_zero, List.take_succ_cons, List.take_zero] at g0
 obtain ⟨x0, e0, w0⟩ := g0.str Try.underlying9
 have g1 := h.fieldN Try.underlying115 1 1 9 rfl
 rw [show Try.prog.cellsOf 9 = 1 by kernel_rfl] at g1
 simp only [List.drop_succ_cons, List.drop_zero, List.take_succ_cons, List.take_zero] at g1
 obtain ⟨x1, e1, w1⟩ := g1.str Try.underlying9
 have g2 := h.fieldN Try.underlying115 2 2 3 rfl
 rw [show Try.prog.cellsOf 3 = 1 by kernel_rfl] at g2
 simp only [List.drop_succ_cons, List.drop_zero, List.take_succ_cons, List.take_zero] at g2
 obtain ⟨x2, e2, w2⟩ := g2.int Try.underlying3
 have w2' := wf_n w2
 have g3 := h.fieldN Try.underlying115 3 3 3 rfl
 rw [show Try.prog.cellsOf 3 = 1 by kernel_rfl] at g3
 simp only [List.drop_succ_cons, List.drop_zero, List.take_succ_cons, List.take_zero] at g3
 obtain ⟨x3, e3, w3⟩ := g3.int Try.underlying3
 have w3' := wf_n w3
 simp only [List.cons.injEq, and_true] at e0 e1 e2 e3
 subst e0 e1 e2 e3
 exact ⟨⟨x0, x1, x2, x3⟩, rfl, ⟨w2'.2, w3'.2, by simp only; omega, by simp only; omega⟩⟩
theorem op_om {w : World} {cs : List Value} (h : Op Try.prog w 113 cs) : ∃ d : Om, cs = omc d ∧ (OtB d.o ∧ Rd w 4 d.a d.o.pairs.length (prcs d.o.pairs)) := by
 obtain ⟨hl, _⟩ := h.struct Try.underlying113
 rw [show Try.prog.cellsOf 113 = 3 by kernel_rfl] at hl
 obtain ⟨c0, c1, c2, rfl⟩ : ∃ a0 a1 a2, cs = [a0, a1, a2] := by
  match cs, hl with
  | [a0, a1, a2], _ => exact ⟨a0, a1, a2, rfl⟩
 have g0 := h.fieldN Try.underlying113 0 0 111 rfl
 rw [show Try.prog.cellsOf 111 = 1 by kernel_rfl] at g0
 simp only [List.drop_succ_cons, List.drop_zero, List.take_succ_cons, List.take_zero] at g0
 obtain ⟨s0, n0, k0, e0, _, _, _, h0⟩ := g0.slice Try.underlying111 (sz := 4) (by kernel_rfl)
 obtain ⟨l0, hl0, hr0, hq0⟩ := rd_of (w := w) prc 4 (by omega) (fun _ => rfl) PrB (n := n0) (a := s0) (fun i hi => by
  obtain ⟨cs', hl', hc, ho⟩ := h0 i hi
  obtain ⟨x, hx, hb⟩ := op_pr ho
  subst hx
  exact ⟨x, hc, hb⟩)
 subst hl0
 have g1 := h.fieldN Try.underlying113 1 1 4 rfl
 rw [show Try.prog.cellsOf 4 = 1 by kernel_rfl] at g1
 simp only [List.drop_succ_cons, List.drop_zero, List.take_succ_cons, List.take_zero] at g1
 obtain ⟨x1, e1⟩ := g1.bool Try.underlying4
 have g2 := h.fieldN Try.underlying113 2 2 3 rfl
 rw [show Try.prog.cellsOf 3 = 1 by kernel_rfl] at g2
 simp only [List.drop_succ_cons, List.drop_zero, List.take_succ_cons, List.take_zero] at g2
 obtain ⟨x2, e2, w2⟩ := g2.int Try.underlying3
 have w2' := wf_n w2
 simp only [List.cons.injEq, and_true] at e0 e1 e2
 subst e0 e1 e2
 exact ⟨⟨⟨l0, x1, x2⟩, s0, k0⟩, rfl, ⟨w2'.2, hq0⟩, hr0⟩
theorem op_an {w : World} {cs : List Value} (h : Op Try.prog w 54 cs) : ∃ (x : An) (m : List Om) (a : Option Addr) (c : Nat), cs = anc x (.slice a m.length c) ∧ m.map (·.o) = x.outs ∧ RdO w a m ∧ AnB x ∧ m.length ≤ 4398046511104 := by
 obtain ⟨hl, _⟩ := h.struct Try.underlying54
 rw [show Try.prog.cellsOf 54 = 7 by kernel_rfl] at hl
 obtain ⟨c0, c1, c2, c3, c4, c5, c6, rfl⟩ : ∃ a0 a1 a2 a3 a4 a5 a6, cs = [a0, a1, a2, a3, a4, a5, a6] := by
  match cs, hl with
  | [a0, a1, a2, a3, a4, a5, a6], _ => exact ⟨a0, a1, a2, a3, a4, a5, a6, rfl⟩
 have g0 := h.fieldN Try.underlying54 0 0 3 rfl
 rw [show Try.prog.cellsOf 3 = 1 by kernel_rfl] at g0
 simp only [List.drop_succ_cons, List.drop_zero, List.take_succ_cons, List.take_zero] at g0
 obtain ⟨x0, e0, w0⟩ := g0.int Try.underlying3
 have w0' := wf_n w0
 have g1 := h.fieldN Try.underlying54 1 1 3 rfl
 rw [show Try.prog.cellsOf 3 = 1 by kernel_rfl] at g1
 simp only [List.drop_succ_cons, List.drop_zero, List.take_succ_cons, List.take_zero] at g1
 obtain ⟨x1, e1, w1⟩ := g1.int Try.underlying3
 have w1' := wf_n w1
 have g2 := h.fieldN Try.underlying54 2 2 24 rfl
 rw [show Try.prog.cellsOf 24 = 1 by kernel_rfl] at g2
 simp only [List.drop_succ_cons, List.drop_zero, List.take_succ_cons, List.take_zero] at g2
 obtain ⟨x2, e2, w2⟩ := g2.int Try.underlying24
 have w2' := wf_n w2
 have g3 := h.fieldN Try.underlying54 3 3 3 rfl
 rw [show Try.prog.cellsOf 3 = 1 by kernel_rfl] at g3
 simp only [List.drop_succ_cons, List.drop_zero, List.take_succ_cons, List.take_zero] at g3
 obtain ⟨x3, e3, w3⟩ := g3.int Try.underlying3
 have w3' := wf_n w3
 have g4 := h.fieldN Try.underlying54 4 4 4 rfl
 rw [show Try.prog.cellsOf 4 = 1 by kernel_rfl] at g4
 simp only [List.drop_succ_cons, List.drop_zero, List.take_succ_cons, List.take_zero] at g4
 obtain ⟨x4, e4⟩ := g4.bool Try.underlying4
 have g5 := h.fieldN Try.underlying54 5 5 52 rfl
 rw [show Try.prog.cellsOf 52 = 1 by kernel_rfl] at g5
 simp only [List.drop_succ_cons, List.drop_zero, List.take_succ_cons, List.take_zero] at g5
 obtain ⟨s5, n5, k5, e5, q1, q2, q3, h5⟩ := g5.slice Try.underlying52 (sz := 3) (by kernel_rfl)
 obtain ⟨l5, hl5, hr5, hq5⟩ := rd_of (w := w) omc 3 (by omega) (fun _ => rfl) (fun d => OtB d.o ∧ Rd w 4 d.a d.o.pairs.length (prcs d.o.pairs)) (n := n5) (a := s5) (fun i hi => by
  obtain ⟨cs', hl', hc, ho⟩ := h5 i hi
  obtain ⟨x, hx, hb⟩ := op_om ho
  subst hx
  exact ⟨x, hc, hb⟩)
 subst hl5
 have g6 := h.fieldN Try.underlying54 6 6 9 rfl
 rw [show Try.prog.cellsOf 9 = 1 by kernel_rfl] at g6
 simp only [List.drop_succ_cons, List.drop_zero, List.take_succ_cons, List.take_zero] at g6
 obtain ⟨x6, e6, w6⟩ := g6.str Try.underlying9
 simp only [List.cons.injEq, and_true] at e0 e1 e2 e3 e4 e5 e6
 subst e0 e1 e2 e3 e4 e5 e6
 refine ⟨⟨x0, x1, x2, x3, x4, l5.map (·.o), x6⟩, l5, s5, k5, rfl, rfl, ⟨hr5, fun d hd => (hq5 d hd).2⟩, ⟨w0'.2, w1'.2, w2'.2, w3'.2, by simp only; omega, fun o ho => ?_⟩, by rw [show Try.prog.bytesOf 113 = 40 by kernel_rfl] at q3; omega⟩
 obtain ⟨d, hd, rfl⟩ := List.mem_map.1 ho
 exact (hq5 d hd).1
theorem op_oq {w : World} {cs : List Value} (h : Op Try.prog w 56 cs) : ∃ x : Oq, cs = oqc x ∧ (RdQ w x ∧ OqB x) := by
 obtain ⟨hl, _⟩ := h.struct Try.underlying56
 rw [show Try.prog.cellsOf 56 = 29 by kernel_rfl] at hl
 obtain ⟨c0, c1, c2, c3, c4, c5, c6, c7, c8, c9, c10, c11, c12, c13, c14, c15, c16, c17, c18, c19, c20, c21, c22, c23, c24, c25, c26, c27, c28, rfl⟩ : ∃ a0 a1 a2 a3 a4 a5 a6 a7 a8 a9 a10 a11 a12 a13 a14 a15 a16 a17 a18 a19 a20 a21 a22 a23 a24 a25 a26 a27 a28, cs = [a0, a1, a2, a3, a4, a5, a6, a7, a8, a9, a10, a11, a12, a13, a14, a15, a16, a17, a18, a19, a20, a21, a22, a23, a24, a25, a26, a27, a28] := by
  match cs, hl with
  | [a0, a1, a2, a3, a4, a5, a6, a7, a8, a9, a10, a11, a12, a13, a14, a15, a16, a17, a18, a19, a20, a21, a22, a23, a24, a25, a26, a27, a28], _ => exact ⟨a0, a1, a2, a3, a4, a5, a6, a7, a8, a9, a10, a11, a12, a13, a14, a15, a16, a17, a18, a19, a20, a21, a22, a23, a24, a25, a26, a27, a28, rfl⟩
 have g0 := h.fieldN Try.underlying56 0 0 3 rfl
 rw [show Try.prog.cellsOf 3 = 1 by kernel_rfl] at g0
 simp only [List.drop_succ_cons, List.drop_zero, List.take_succ_cons, List.take_zero] at g0
 obtain ⟨x0, e0, w0⟩ := g0.int Try.underlying3
 have w0' := wf_n w0
 have g1 := h.fieldN Try.underlying56 1 1 44 rfl
 rw [show Try.prog.cellsOf 44 = 18 by kernel_rfl] at g1
 simp only [List.drop_succ_cons, List.drop_zero, List.take_succ_cons, List.take_zero] at g1
 obtain ⟨y1, a1, n1, a2, n2, a3, n3, e1, r1, b1⟩ := op_cm g1
 have g2 := h.fieldN Try.underlying56 2 19 9 rfl
 rw [show Try.prog.cellsOf 9 = 1 by kernel_rfl] at g2
 simp only [List.drop_succ_cons, List.drop_zero, List.take_succ_cons, List.take_zero] at g2
 obtain ⟨x2, e2, w2⟩ := g2.str Try.underlying9
 have g3 := h.fieldN Try.underlying56 3 20 54 rfl
 rw [show Try.prog.cellsOf 54 = 7 by kernel_rfl] at g3
 simp only [List.drop_succ_cons, List.drop_zero, List.take_succ_cons, List.take_zero] at g3
 obtain ⟨y3, m3, a4, n4, e3, o3, r3, b3, l3⟩ := op_an g3
 have g4 := h.fieldN Try.underlying56 4 27 3 rfl
 rw [show Try.prog.cellsOf 3 = 1 by kernel_rfl] at g4
 simp only [List.drop_succ_cons, List.drop_zero, List.take_succ_cons, List.take_zero] at g4
 obtain ⟨x4, e4, w4⟩ := g4.int Try.underlying3
 have w4' := wf_n w4
 have g5 := h.fieldN Try.underlying56 5 28 3 rfl
 rw [show Try.prog.cellsOf 3 = 1 by kernel_rfl] at g5
 simp only [List.drop_succ_cons, List.drop_zero, List.take_succ_cons, List.take_zero] at g5
 obtain ⟨x5, e5, w5⟩ := g5.int Try.underlying3
 have w5' := wf_n w5
 refine ⟨⟨x0, y1, a1, n1, a2, n2, a3, n3, x2, y3, m3, a4, n4, x4, x5⟩, ?_, ⟨r1, r3⟩, ⟨o3, b1, b3, w2, w4'.2, w5'.2⟩⟩
 simp only [cmc, anc, List.cons.injEq, and_true] at e0 e1 e2 e3 e4 e5
 simp only [oqc, List.cons.injEq, and_true]
 simp only [e0, e2, e4, e5, true_and, and_true]
 simp only [e1, e3, and_true, true_and, and_self]
theorem ops_in {w : World} {v : Value} {b : Nat} (hv : Value.okWide Try.prog w .any b 50 v) (h : Op Try.prog w 50 v.cells.toList) :
  ∃ (l : List Oq) (a : Option Addr) (cap : Nat), v = .slice a l.length cap ∧ Rd w 29 a l.length (l.flatMap oqc) ∧ (∀ x ∈ l, RdQ w x ∧ OqB x) ∧ l.length ≤ 9223372036854775807 := by
 obtain ⟨a, n, cap, rfl⟩ := okWide_slice Try.underlying50 hv
 obtain ⟨a', n', cap', e, g1, g2, g3, g4⟩ := h.slice Try.underlying50 (sz := 29) (by kernel_rfl)
 simp [Value.cells] at e
 obtain ⟨rfl, rfl, rfl⟩ := e
 obtain ⟨ts, hts, hrd, hq⟩ := rd_of (w := w) oqc 29 (by omega) oqc_len (fun x => RdQ w x ∧ OqB x) (n := n) (a := a) (fun i hi => by
  obtain ⟨cs', hl', hc, ho⟩ := g4 i hi
  obtain ⟨x, hx, hr⟩ := op_oq ho
  subst hx
  exact ⟨x, hc, hr⟩)
 subst hts
 exact ⟨ts, a, cap, rfl, hrd, hq, by unfold maxLen at g2; omega⟩
/-- An Op by value. -/
theorem oq_in {w : World} {b : Nat} {v : Value} (hv : Value.okWide Try.prog w .any b 56 v) (h : Op Try.prog w 56 v.cells.toList) : ∃ x : Oq, v = oqV x ∧ RdQ w x ∧ OqB x := by
 obtain ⟨cs, rfl, _⟩ := okWide_aggQ Try.underlying56 hv
 obtain ⟨x, hx, h1⟩ := op_oq h
 refine ⟨x, ?_, h1⟩
 obtain ⟨l⟩ := cs
 have : l = oqc x := hx
 subst this
 rfl
/-! ### small ones -/
structure SmQ (x : Oq) : Prop where
 text : x.text.length ≤ 10000
 li : x.cmd.ifs.length ≤ 30
 lt : x.cmd.thens.length ≤ 30
 le : x.cmd.elses.length ≤ 30
 outs : x.m.length ≤ 20
 prs : ∀ d ∈ x.m, d.o.pairs.length ≤ 50
theorem wtO_few (m : List Om) (h : ∀ d ∈ m, d.o.pairs.length ≤ 50) : wtO (m.map (·.o)) ≤ 51 * m.length := by
 induction m with
 | nil => simp [wtO]
 | cons d m ih =>
  have h1 := h d (by simp)
  have h2 := ih (fun y hy => h y (by simp [hy]))
  have e : wtO ((d :: m).map (·.o)) = d.o.pairs.length + 1 + wtO (m.map (·.o)) := by simp [wtO]
  rw [e, List.length_cons]
  omega
theorem SmQ.ans {x : Oq} (h : SmQ x) (hB : OqB x) : SmA x.ans := by
 refine smA_of hB.ans ?_
 have := wtO_few x.m h.prs
 have h2 := h.outs
 rw [← hB.outs]
 omega
theorem SmQ.lenS {x : Oq} (h : SmQ x) : LenS x.cmd := ⟨by have := h.li; omega, by have := h.lt; omega, by have := h.le; omega⟩
/-! ### what is heard -/
def heardC (x : Oq) : List UInt8 := if x.k = 3 then (refAB x.ans).1 else if x.k = 4 then noteB x.err x.lead else x.text
theorem refAB_len (x : An) (h : LenA x) : (refAB x).1.length ≤ 2097152 := by
 rw [refAB_enc x h]
 obtain ⟨⟨bs, er⟩, hs⟩ : ∃ p, p = encA x := ⟨_, rfl⟩
 rw [← hs]
 by_cases h0 : er = 0
 ·subst h0
  obtain ⟨h1, h2⟩ := encA_some hs.symm
  rw [h2]
  exact (rightA_of h1).2.2
 ·have : bs = [] := by
   unfold encA at hs
   split at hs
   ·injection hs
   ·split at hs
    ·injection hs
    ·exact written_err _ _ _ _ hs.symm h0
  rw [this]
  simp
theorem noteB_lenQ (e l : Int) : (noteB e l).length ≤ 27 := by
 cases h1 : okNum e with
 | false => rw [noteB_bad (.inl h1)]; simp
 | true =>
  cases h2 : okNum l with
  | false => rw [noteB_bad (.inr h2)]; simp
  | true =>
   rw [noteB_ok h1 h2]
   have a1 := okNum_iff.1 h1
   have a2 := okNum_iff.1 h2
   have b1 := numB_len e.toNat (by omega)
   have b2 := numB_len l.toNat (by omega)
   have b3 := numB_len 0 (by omega)
   simp only [List.length_append]
   omega
theorem heard_len {x : Oq} (h : SmQ x) (hB : OqB x) : (heardC x).length ≤ 2097152 := by
 unfold heardC
 split
 ·exact refAB_len _ (h.ans hB).ln
 ·split
  ·exact Nat.le_trans (noteB_lenQ _ _) (by omega)
  ·exact Nat.le_trans h.text (by omega)
set_option maxHeartbeats 4000000 in
theorem heard_any (x : Oq) (w : World) (hr : RdQ w x) (hB : OqB x) (hS : SmQ x) : Calls Try.prog 19 #[oqV x] w fun e w' => e = .returned (Str (heardC x)) ∧ Step [] [] w w' := by
 have H00 : Hid (Blk (w.alloc (.cells (oqc x).toArray 56)) w.heap.size 56 (oqc x).toArray ∧ Step [] [] w (w.alloc (.cells (oqc x).toArray 56)) ∧ RdQ (w.alloc (.cells (oqc x).toArray 56)) x) := Lib.hid ⟨Blk.new w _ _, (Step.refl [] w).alloc _, hr.step ((Step.refl [] w).alloc _)⟩
 have HQ := Lib.hid (And.intro hB hS)
 clear hr hB hS
 go_enter Try.func19, Try.ntmps19
 go_upto_region 1 with fail
 change Code.wp _ _ _ _ (w.alloc (.cells (oqc x).toArray 56))
 obtain ⟨b, hb⟩ : ∃ b, b = w.heap.size := ⟨_, rfl⟩
 obtain ⟨V, hV⟩ : ∃ V, V = (w.alloc (.cells (oqc x).toArray 56)) := ⟨_, rfl⟩
 rw [← hV, ← hb] at H00
 have H0 := H00
 rw [← hV]
 try rw [← hb]
 clear hV hb H00
 have pc := H0.out.1.cell
 have p0 := pc 0
 have p19 := pc 19
 have p20 := pc 20
 have p21 := pc 21
 have p22 := pc 22
 have p23 := pc 23
 have p24 := pc 24
 have p25 := pc 25
 have p26 := pc 26
 have p27 := pc 27
 have p28 := pc 28
 clear pc
 simp only [oqc, List.getElem?_toArray, List.getElem?_cons_zero, List.getElem?_cons_succ] at p0 p19 p20 p21 p22 p23 p24 p25 p26 p27 p28
 have pl := H0.out.1.lt
 by_cases q3 : x.k = 3
 ·have e3 : (x.k == 3) = true := by simp [q3]
  have HV : Hid (heardC x = (refAB x.ans).1) := Lib.hid (if_pos q3)
  clear q3
  go_wp2_with fail
  refine (ransB_any x.ans x.m x.a x.c V H0.out.2.2.ro HQ.out.1.outs HQ.out.1.ans (HQ.out.2.ans HQ.out.1).ln (HQ.out.2.ans HQ.out.1).nn (HQ.out.2.ans HQ.out.1).it).mono ?_
  rintro e w2 ⟨rfl, k2⟩
  have H2 := Lib.hid (H0.out.2.1.trans k2)
  clear k2
  obtain ⟨⟨rs, re⟩, hq⟩ : ∃ p, p = refAB x.ans := ⟨_, rfl⟩
  rw [← hq] at HV ⊢
  clear hq
  go_wp2_with fail
  exact bodyPost_ret (results_tmp rfl _ _ _) rfl ⟨by rw [HV.out]; rfl, H2.out⟩
 ·have e3 : (x.k == 3) = false := by simp [q3]
  by_cases q4 : x.k = 4
  ·have e4 : (x.k == 4) = true := by simp [q4]
   have HV : Hid (heardC x = noteB x.err x.lead) := Lib.hid (by rw [heardC, if_neg q3, if_pos q4])
   clear q3 q4
   go_wp2_with fail
   refine (lnote_any x.err x.lead V HQ.out.1.err HQ.out.1.lead).mono ?_
   rintro e w2 ⟨rfl, k2⟩
   have H2 := Lib.hid (H0.out.2.1.trans k2)
   clear k2
   go_wp2_with fail
   exact bodyPost_ret (results_tmp rfl _ _ _) rfl ⟨by rw [HV.out]; rfl, H2.out⟩
  ·have e4 : (x.k == 4) = false := by simp [q4]
   have HV : Hid (heardC x = x.text) := Lib.hid (by rw [heardC, if_neg q3, if_neg q4])
   clear q3 q4
   go_wp2_with fail
   exact bodyPost_ret (results_tmp rfl _ _ _) rfl ⟨by rw [HV.out]; rfl, H0.out.2.1⟩
end Go.Proofs.Ytjfaplmojpldhaa
