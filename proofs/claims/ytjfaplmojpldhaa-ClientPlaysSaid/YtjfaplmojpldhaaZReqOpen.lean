/-
 A flat form that comes in, opened. Plain lemmas.
-/
import Derived.Test.YtjfaplmojpldhaaZGA
import Derived.Test.YtjfaplmojpldhaaZReqI
namespace Go.Proofs.Ytjfaplmojpldhaa
open Go.RowKit Go.ChangeShapes Go.WideShapes Go.ChangeAt
set_option linter.unusedSimpArgs false
set_option linter.unusedVariables false
set_option maxRecDepth 100000

theorem Op.fieldQ {P : Program} {w : World} {t : TypeId} {cs : List Value} {fs : Array Field} (ht : P.underlying t = some (.struct fs)) (h : Op P w t cs) (i off : Nat) (T : TypeId) (hf : (fs[i]?).map (fun f => (f.offset, f.type)) = some (off, T)) : Op P w T ((cs.drop off).take (P.cellsOf T)) := by
 cases hfi : fs[i]? with
 | none => simp [hfi] at hf
 | some f =>
  simp only [hfi, Option.map_some, Option.some.injEq, Prod.mk.injEq] at hf
  have := (h.struct ht).2 i f hfi
  rwa [hf.1, hf.2] at this
theorem wf_q {x : Int} (h : (Lit.int .i64 x).wf = true) : -9223372036854775808 ≤ x ∧ x < 9223372036854775808 := by
 simp [Lit.wf, IntKind.min, IntKind.max, IntKind.signed, IntKind.bits] at h
 omega
theorem op_cp {w : World} {cs : List Value} (h : Op Try.prog w 110 cs) : ∃ c : Cp, cs = cpc c ∧ CpB c := by
 obtain ⟨hl, _⟩ := h.struct Try.underlying110
 rw [show Try.prog.cellsOf 110 = 4 by kernel_rfl] at hl
 obtain ⟨c0, c1, c2, c3, rfl⟩ : ∃ a0 a1 a2 a3, cs = [a0, a1, a2, a3] := by
  match cs, hl with
  | [a0, a1, a2, a3], _ => exact ⟨a0, a1, a2, a3, rfl⟩
 have g0 := h.fieldQ Try.underlying110 0 0 9 rfl
 rw [show Try.prog.cellsOf 9 = 1 by kernel_rfl] at g0
 simp only [List.drop_succ_cons, List.drop_zero, List.take_succ_cons, List.take_zero] at g0
 obtain ⟨x0, e0, w0⟩ := g0.str Try.underlying9
 have g1 := h.fieldQ Try.underlying110 1 1 3 rfl
 rw [show Try.prog.cellsOf 3 = 1 by kernel_rfl] at g1
 simp only [List.drop_succ_cons, List.drop_zero, List.take_succ_cons, List.take_zero] at g1
 obtain ⟨x1, e1, w1⟩ := g1.int Try.underlying3
 have w1' := wf_q w1
 have g2 := h.fieldQ Try.underlying110 2 2 3 rfl
 rw [show Try.prog.cellsOf 3 = 1 by kernel_rfl] at g2
 simp only [List.drop_succ_cons, List.drop_zero, List.take_succ_cons, List.take_zero] at g2
 obtain ⟨x2, e2, w2⟩ := g2.int Try.underlying3
 have w2' := wf_q w2
 have g3 := h.fieldQ Try.underlying110 3 3 9 rfl
 rw [show Try.prog.cellsOf 9 = 1 by kernel_rfl] at g3
 simp only [List.drop_succ_cons, List.drop_zero, List.take_succ_cons, List.take_zero] at g3
 obtain ⟨x3, e3, w3⟩ := g3.str Try.underlying9
 simp only [List.cons.injEq, and_true] at e0 e1 e2 e3
 subst e0 e1 e2 e3
 exact ⟨⟨x0, x1, x2, x3⟩, rfl, ⟨w1'.2, w2'.2, by simp only; omega, by simp only; omega⟩⟩
theorem op_span {w : World} {cs : List Value} (h : Op Try.prog w 38 cs) : ∃ f t : List UInt8, cs = [Str f, Str t] ∧ f.length ≤ 140737488351232 ∧ t.length ≤ 140737488351232 := by
 obtain ⟨hl, _⟩ := h.struct Try.underlying38
 rw [show Try.prog.cellsOf 38 = 2 by kernel_rfl] at hl
 obtain ⟨c0, c1, rfl⟩ : ∃ a0 a1, cs = [a0, a1] := by
  match cs, hl with
  | [a0, a1], _ => exact ⟨a0, a1, rfl⟩
 have g0 := h.fieldQ Try.underlying38 0 0 9 rfl
 rw [show Try.prog.cellsOf 9 = 1 by kernel_rfl] at g0
 simp only [List.drop_succ_cons, List.drop_zero, List.take_succ_cons, List.take_zero] at g0
 obtain ⟨x0, e0, w0⟩ := g0.str Try.underlying9
 have g1 := h.fieldQ Try.underlying38 1 1 9 rfl
 rw [show Try.prog.cellsOf 9 = 1 by kernel_rfl] at g1
 simp only [List.drop_succ_cons, List.drop_zero, List.take_succ_cons, List.take_zero] at g1
 obtain ⟨x1, e1, w1⟩ := g1.str Try.underlying9
 simp only [List.cons.injEq, and_true] at e0 e1
 subst e0 e1
 exact ⟨x0, x1, rfl, w0, w1⟩
theorem op_da {w : World} {cs : List Value} (h : Op Try.prog w 108 cs) : ∃ d : Da, cs = dac d ∧ DaB d := by
 obtain ⟨hl, _⟩ := h.struct Try.underlying108
 rw [show Try.prog.cellsOf 108 = 7 by kernel_rfl] at hl
 obtain ⟨c0, c1, c2, c3, c4, c5, c6, rfl⟩ : ∃ a0 a1 a2 a3 a4 a5 a6, cs = [a0, a1, a2, a3, a4, a5, a6] := by
  match cs, hl with
  | [a0, a1, a2, a3, a4, a5, a6], _ => exact ⟨a0, a1, a2, a3, a4, a5, a6, rfl⟩
 have g0 := h.fieldQ Try.underlying108 0 0 3 rfl
 rw [show Try.prog.cellsOf 3 = 1 by kernel_rfl] at g0
 simp only [List.drop_succ_cons, List.drop_zero, List.take_succ_cons, List.take_zero] at g0
 obtain ⟨x0, e0, w0⟩ := g0.int Try.underlying3
 have w0' := wf_q w0
 have g1 := h.fieldQ Try.underlying108 1 1 38 rfl
 rw [show Try.prog.cellsOf 38 = 2 by kernel_rfl] at g1
 simp only [List.drop_succ_cons, List.drop_zero, List.take_succ_cons, List.take_zero] at g1
 obtain ⟨f, t, e1, wf, wt⟩ := op_span g1
 have g2 := h.fieldQ Try.underlying108 2 3 9 rfl
 rw [show Try.prog.cellsOf 9 = 1 by kernel_rfl] at g2
 simp only [List.drop_succ_cons, List.drop_zero, List.take_succ_cons, List.take_zero] at g2
 obtain ⟨x2, e2, w2⟩ := g2.str Try.underlying9
 have g3 := h.fieldQ Try.underlying108 3 4 9 rfl
 rw [show Try.prog.cellsOf 9 = 1 by kernel_rfl] at g3
 simp only [List.drop_succ_cons, List.drop_zero, List.take_succ_cons, List.take_zero] at g3
 obtain ⟨x3, e3, w3⟩ := g3.str Try.underlying9
 have g4 := h.fieldQ Try.underlying108 4 5 3 rfl
 rw [show Try.prog.cellsOf 3 = 1 by kernel_rfl] at g4
 simp only [List.drop_succ_cons, List.drop_zero, List.take_succ_cons, List.take_zero] at g4
 obtain ⟨x4, e4, w4⟩ := g4.int Try.underlying3
 have w4' := wf_q w4
 have g5 := h.fieldQ Try.underlying108 5 6 3 rfl
 rw [show Try.prog.cellsOf 3 = 1 by kernel_rfl] at g5
 simp only [List.drop_succ_cons, List.drop_zero, List.take_succ_cons, List.take_zero] at g5
 obtain ⟨x5, e5, w5⟩ := g5.int Try.underlying3
 have w5' := wf_q w5
 simp only [List.cons.injEq, and_true] at e0 e1 e2 e3 e4 e5
 obtain ⟨e1, e6⟩ := e1
 subst e0 e1 e2 e3 e4 e5 e6
 exact ⟨⟨x0, f, t, x2, x3, x4, x5⟩, rfl, ⟨w0'.2, w4'.2, w5'.2, by simp only; omega, by simp only; omega, by simp only; omega, by simp only; omega⟩⟩
theorem op_grant {w : World} {cs : List Value} (h : Op Try.prog w 40 cs) : ∃ (f t : List UInt8) (r g : Bool), cs = [Str f, Str t, .bool r, .bool g] ∧ f.length ≤ 140737488351232 ∧ t.length ≤ 140737488351232 := by
 obtain ⟨hl, _⟩ := h.struct Try.underlying40
 rw [show Try.prog.cellsOf 40 = 4 by kernel_rfl] at hl
 obtain ⟨c0, c1, c2, c3, rfl⟩ : ∃ a0 a1 a2 a3, cs = [a0, a1, a2, a3] := by
  match cs, hl with
  | [a0, a1, a2, a3], _ => exact ⟨a0, a1, a2, a3, rfl⟩
 have g0 := h.fieldQ Try.underlying40 0 0 38 rfl
 rw [show Try.prog.cellsOf 38 = 2 by kernel_rfl] at g0
 simp only [List.drop_succ_cons, List.drop_zero, List.take_succ_cons, List.take_zero] at g0
 obtain ⟨f, t, e0, wf, wt⟩ := op_span g0
 have g1 := h.fieldQ Try.underlying40 1 2 4 rfl
 rw [show Try.prog.cellsOf 4 = 1 by kernel_rfl] at g1
 simp only [List.drop_succ_cons, List.drop_zero, List.take_succ_cons, List.take_zero] at g1
 obtain ⟨x1, e1⟩ := g1.bool Try.underlying4
 have g2 := h.fieldQ Try.underlying40 2 3 4 rfl
 rw [show Try.prog.cellsOf 4 = 1 by kernel_rfl] at g2
 simp only [List.drop_succ_cons, List.drop_zero, List.take_succ_cons, List.take_zero] at g2
 obtain ⟨x2, e2⟩ := g2.bool Try.underlying4
 simp only [List.cons.injEq, and_true] at e0 e1 e2
 obtain ⟨e0, e3⟩ := e0
 subst e0 e1 e2 e3
 exact ⟨f, t, x1, x2, rfl, wf, wt⟩
/-- A flat form, read. -/
theorem op_cm {w : World} {cs : List Value} (h : Op Try.prog w 44 cs) : ∃ (y : Cm) (a1 : Option Addr) (c1 : Nat) (a2 : Option Addr) (c2 : Nat) (a3 : Option Addr) (c3 : Nat), cs = cmc y (.slice a1 y.ifs.length c1) (.slice a2 y.thens.length c2) (.slice a3 y.elses.length c3) ∧ RdC w y a1 a2 a3 ∧ CmB y := by
 obtain ⟨hl, _⟩ := h.struct Try.underlying44
 rw [show Try.prog.cellsOf 44 = 18 by kernel_rfl] at hl
 obtain ⟨c0, c1, c2, c3, c4, c5, c6, c7, c8, c9, c10, c11, c12, c13, c14, c15, c16, c17, rfl⟩ : ∃ a0 a1 a2 a3 a4 a5 a6 a7 a8 a9 a10 a11 a12 a13 a14 a15 a16 a17, cs = [a0, a1, a2, a3, a4, a5, a6, a7, a8, a9, a10, a11, a12, a13, a14, a15, a16, a17] := by
  match cs, hl with
  | [a0, a1, a2, a3, a4, a5, a6, a7, a8, a9, a10, a11, a12, a13, a14, a15, a16, a17], _ => exact ⟨a0, a1, a2, a3, a4, a5, a6, a7, a8, a9, a10, a11, a12, a13, a14, a15, a16, a17, rfl⟩
 have g0 := h.fieldQ Try.underlying44 0 0 3 rfl
 rw [show Try.prog.cellsOf 3 = 1 by kernel_rfl] at g0
 simp only [List.drop_succ_cons, List.drop_zero, List.take_succ_cons, List.take_zero] at g0
 obtain ⟨x0, e0, w0⟩ := g0.int Try.underlying3
 have w0' := wf_q w0
 have g1 := h.fieldQ Try.underlying44 1 1 3 rfl
 rw [show Try.prog.cellsOf 3 = 1 by kernel_rfl] at g1
 simp only [List.drop_succ_cons, List.drop_zero, List.take_succ_cons, List.take_zero] at g1
 obtain ⟨x1, e1, w1⟩ := g1.int Try.underlying3
 have w1' := wf_q w1
 have g2 := h.fieldQ Try.underlying44 2 2 9 rfl
 rw [show Try.prog.cellsOf 9 = 1 by kernel_rfl] at g2
 simp only [List.drop_succ_cons, List.drop_zero, List.take_succ_cons, List.take_zero] at g2
 obtain ⟨x2, e2, w2⟩ := g2.str Try.underlying9
 have g3 := h.fieldQ Try.underlying44 3 3 3 rfl
 rw [show Try.prog.cellsOf 3 = 1 by kernel_rfl] at g3
 simp only [List.drop_succ_cons, List.drop_zero, List.take_succ_cons, List.take_zero] at g3
 obtain ⟨x3, e3, w3⟩ := g3.int Try.underlying3
 have w3' := wf_q w3
 have g4 := h.fieldQ Try.underlying44 4 4 9 rfl
 rw [show Try.prog.cellsOf 9 = 1 by kernel_rfl] at g4
 simp only [List.drop_succ_cons, List.drop_zero, List.take_succ_cons, List.take_zero] at g4
 obtain ⟨x4, e4, w4⟩ := g4.str Try.underlying9
 have g5 := h.fieldQ Try.underlying44 5 5 9 rfl
 rw [show Try.prog.cellsOf 9 = 1 by kernel_rfl] at g5
 simp only [List.drop_succ_cons, List.drop_zero, List.take_succ_cons, List.take_zero] at g5
 obtain ⟨x5, e5, w5⟩ := g5.str Try.underlying9
 have g6 := h.fieldQ Try.underlying44 6 6 9 rfl
 rw [show Try.prog.cellsOf 9 = 1 by kernel_rfl] at g6
 simp only [List.drop_succ_cons, List.drop_zero, List.take_succ_cons, List.take_zero] at g6
 obtain ⟨x6, e6, w6⟩ := g6.str Try.underlying9
 have g7 := h.fieldQ Try.underlying44 7 7 9 rfl
 rw [show Try.prog.cellsOf 9 = 1 by kernel_rfl] at g7
 simp only [List.drop_succ_cons, List.drop_zero, List.take_succ_cons, List.take_zero] at g7
 obtain ⟨x7, e7, w7⟩ := g7.str Try.underlying9
 have g8 := h.fieldQ Try.underlying44 8 8 3 rfl
 rw [show Try.prog.cellsOf 3 = 1 by kernel_rfl] at g8
 simp only [List.drop_succ_cons, List.drop_zero, List.take_succ_cons, List.take_zero] at g8
 obtain ⟨x8, e8, w8⟩ := g8.int Try.underlying3
 have w8' := wf_q w8
 have g9 := h.fieldQ Try.underlying44 9 9 3 rfl
 rw [show Try.prog.cellsOf 3 = 1 by kernel_rfl] at g9
 simp only [List.drop_succ_cons, List.drop_zero, List.take_succ_cons, List.take_zero] at g9
 obtain ⟨x9, e9, w9⟩ := g9.int Try.underlying3
 have w9' := wf_q w9
 have g11 := h.fieldQ Try.underlying44 11 14 3 rfl
 rw [show Try.prog.cellsOf 3 = 1 by kernel_rfl] at g11
 simp only [List.drop_succ_cons, List.drop_zero, List.take_succ_cons, List.take_zero] at g11
 obtain ⟨x11, e11, w11⟩ := g11.int Try.underlying3
 have w11' := wf_q w11
 have g10 := h.fieldQ Try.underlying44 10 10 40 rfl
 rw [show Try.prog.cellsOf 40 = 4 by kernel_rfl] at g10
 simp only [List.drop_succ_cons, List.drop_zero, List.take_succ_cons, List.take_zero] at g10
 obtain ⟨f, t, r, g, e10, wf, wt⟩ := op_grant g10
 have g12 := h.fieldQ Try.underlying44 12 15 41 rfl
 rw [show Try.prog.cellsOf 41 = 1 by kernel_rfl] at g12
 simp only [List.drop_succ_cons, List.drop_zero, List.take_succ_cons, List.take_zero] at g12
 obtain ⟨s12, n12, k12, e12, _, _, _, h12⟩ := g12.slice Try.underlying41 (sz := 4) (by kernel_rfl)
 obtain ⟨l12, hl12, hr12, hq12⟩ := rd_of (w := w) cpc 4 (by omega) (fun _ => rfl) CpB (n := n12) (a := s12) (fun i hi => by
  obtain ⟨cs', hl', hc, ho⟩ := h12 i hi
  obtain ⟨x, hx, hb⟩ := op_cp ho
  subst hx
  exact ⟨x, hc, hb⟩)
 subst hl12
 have g13 := h.fieldQ Try.underlying44 13 16 42 rfl
 rw [show Try.prog.cellsOf 42 = 1 by kernel_rfl] at g13
 simp only [List.drop_succ_cons, List.drop_zero, List.take_succ_cons, List.take_zero] at g13
 obtain ⟨s13, n13, k13, e13, _, _, _, h13⟩ := g13.slice Try.underlying42 (sz := 7) (by kernel_rfl)
 obtain ⟨l13, hl13, hr13, hq13⟩ := rd_of (w := w) dac 7 (by omega) (fun _ => rfl) DaB (n := n13) (a := s13) (fun i hi => by
  obtain ⟨cs', hl', hc, ho⟩ := h13 i hi
  obtain ⟨x, hx, hb⟩ := op_da ho
  subst hx
  exact ⟨x, hc, hb⟩)
 subst hl13
 have g14 := h.fieldQ Try.underlying44 14 17 42 rfl
 rw [show Try.prog.cellsOf 42 = 1 by kernel_rfl] at g14
 simp only [List.drop_succ_cons, List.drop_zero, List.take_succ_cons, List.take_zero] at g14
 obtain ⟨s14, n14, k14, e14, _, _, _, h14⟩ := g14.slice Try.underlying42 (sz := 7) (by kernel_rfl)
 obtain ⟨l14, hl14, hr14, hq14⟩ := rd_of (w := w) dac 7 (by omega) (fun _ => rfl) DaB (n := n14) (a := s14) (fun i hi => by
  obtain ⟨cs', hl', hc, ho⟩ := h14 i hi
  obtain ⟨x, hx, hb⟩ := op_da ho
  subst hx
  exact ⟨x, hc, hb⟩)
 subst hl14
 simp only [List.cons.injEq, and_true] at e0 e1 e2 e3 e4 e5 e6 e7 e8 e9 e11 e10 e12 e13 e14
 obtain ⟨e10, e15, e16, e17⟩ := e10
 subst e0 e1 e2 e3 e4 e5 e6 e7 e8 e9 e11 e10 e12 e13 e14 e15 e16 e17
 exact ⟨⟨x0, x1, x2, x3, x4, x5, x6, x7, x8, x9, f, t, r, g, x11, l12, l13, l14⟩, s12, k12, s13, k13, s14, k14, rfl, ⟨hr12, hr13, hr14⟩, ⟨w0'.2, w1'.2, w8'.2, w9'.2, w11'.2, by simp only; omega, by simp only; omega, by simp only; omega, by simp only; omega, by simp only; omega, by simp only; omega, by simp only; omega, hq12, hq13, hq14⟩⟩
theorem okWide_aggQ {P : Program} {w : World} {r : Reach} {base : Nat} {t : TypeId} {fs : Array Field} {v : Value} (ht : P.underlying t = some (.struct fs)) (h : Value.okWide P w r base t v) : ∃ cs, v = .agg cs ∧ cs.size = P.cellsOf t := by
 simp only [Value.okWide, ht] at h
 obtain ⟨cs, h1, h2, _⟩ := h
 exact ⟨cs, h1, h2⟩
end Go.Proofs.Ytjfaplmojpldhaa
