/-
  A flat form that comes in, opened. Plain lemmas.
-/
import Derived.Test.YtihklmomipidaaaMsgK
import Derived.Test.YtihklmomipidaaaOpen
namespace Go.Proofs.Ytihklmomipidaaa
open Go.RowKit Go.ChangeShapes Go.WideShapes Go.ChangeAt
set_option linter.unusedSimpArgs false
set_option linter.unusedVariables false
set_option maxRecDepth 100000

theorem Op.fieldN {P : Program} {w : World} {t : TypeId} {cs : List Value} {fs : Array Field} (ht : P.underlying t = some (.struct fs)) (h : Op P w t cs) (i off : Nat) (T : TypeId) (hf : (fs[i]?).map (fun f => (f.offset, f.type)) = some (off, T)) : Op P w T ((cs.drop off).take (P.cellsOf T)) := by
  cases hfi : fs[i]? with
  | none => simp [hfi] at hf
  | some f =>
    simp only [hfi, Option.map_some, Option.some.injEq, Prod.mk.injEq] at hf
    have := (h.struct ht).2 i f hfi
    rwa [hf.1, hf.2] at this
theorem op_ent {w : World} {cs : List Value} (h : Op Try.prog w 60 cs) : ∃ e : Ent, cs = entc e := by
  obtain ⟨hl, _⟩ := h.struct Try.underlying60
  rw [show Try.prog.cellsOf 60 = 3 by kernel_rfl] at hl
  obtain ⟨c0, c1, c2, rfl⟩ : ∃ a b c, cs = [a, b, c] := by
    match cs, hl with
    | [a, b, c], _ => exact ⟨a, b, c, rfl⟩
  have g0 := h.field Try.underlying60 0 3 rfl (by kernel_rfl) rfl
  have g1 := h.field Try.underlying60 1 3 rfl (by kernel_rfl) rfl
  have g2 := h.field Try.underlying60 2 9 rfl (by kernel_rfl) rfl
  obtain ⟨i, e0, w0⟩ := g0.int Try.underlying3
  obtain ⟨t, e1, w1⟩ := g1.int Try.underlying3
  obtain ⟨d, e2, w2⟩ := g2.str Try.underlying9
  simp at e0 e1 e2
  subst e0 e1 e2
  exact ⟨⟨i, t, d⟩, rfl⟩
/-- A flat form, read. -/
theorem op_rw {w : World} {cs : List Value} (h : Op Try.prog w 24 cs) : ∃ (x : Rw) (a : Option Addr) (cap : Nat), cs = rwc x (.slice a x.es.length cap) ∧ Rd w 3 a x.es.length (entcs x.es) ∧ x.es.length ≤ 4398046511104 ∧ x.data.length ≤ 140737488351232 := by
  obtain ⟨hl, _⟩ := h.struct Try.underlying24
  rw [show Try.prog.cellsOf 24 = 10 by kernel_rfl] at hl
  obtain ⟨c0, c1, c2, c3, c4, c5, c6, c7, c8, c9, rfl⟩ : ∃ a b c d e f g h i j, cs = [a, b, c, d, e, f, g, h, i, j] := by
    match cs, hl with
    | [a, b, c, d, e, f, g, h, i, j], _ => exact ⟨a, b, c, d, e, f, g, h, i, j, rfl⟩
  have g0 := h.field Try.underlying24 0 3 rfl (by kernel_rfl) rfl
  have g1 := h.field Try.underlying24 1 3 rfl (by kernel_rfl) rfl
  have g2 := h.field Try.underlying24 2 3 rfl (by kernel_rfl) rfl
  have g3 := h.field Try.underlying24 3 3 rfl (by kernel_rfl) rfl
  have g4 := h.field Try.underlying24 4 3 rfl (by kernel_rfl) rfl
  have g5 := h.field Try.underlying24 5 3 rfl (by kernel_rfl) rfl
  have g6 := h.field Try.underlying24 6 3 rfl (by kernel_rfl) rfl
  have g7 := h.field Try.underlying24 7 4 rfl (by kernel_rfl) rfl
  have g8 := h.field Try.underlying24 8 22 rfl (by kernel_rfl) rfl
  have g9 := h.field Try.underlying24 9 9 rfl (by kernel_rfl) rfl
  obtain ⟨x0, e0, w0⟩ := g0.int Try.underlying3
  obtain ⟨x1, e1, w1⟩ := g1.int Try.underlying3
  obtain ⟨x2, e2, w2⟩ := g2.int Try.underlying3
  obtain ⟨x3, e3, w3⟩ := g3.int Try.underlying3
  obtain ⟨x4, e4, w4⟩ := g4.int Try.underlying3
  obtain ⟨x5, e5, w5⟩ := g5.int Try.underlying3
  obtain ⟨x6, e6, w6⟩ := g6.int Try.underlying3
  obtain ⟨x7, e7⟩ := g7.bool Try.underlying4
  obtain ⟨x9, e9, w9⟩ := g9.str Try.underlying9
  obtain ⟨a, n, cap, e8, h1, h2, h3, h4⟩ := g8.slice Try.underlying22 (sz := 3) (by kernel_rfl)
  obtain ⟨l, hll, hr, hq⟩ := rd_of (w := w) entc 3 (by omega) (fun _ => rfl) (fun _ => True) (n := n) (a := a) (fun i hi => by
    obtain ⟨cs', hl', hc, ho⟩ := h4 i hi
    obtain ⟨x, hx⟩ := op_ent ho
    subst hx
    exact ⟨x, hc, trivial⟩)
  subst hll
  simp at e0 e1 e2 e3 e4 e5 e6 e7 e8 e9
  subst e0 e1 e2 e3 e4 e5 e6 e7 e8 e9
  have hb : Try.prog.bytesOf 60 = 32 := by kernel_rfl
  rw [hb] at h3
  exact ⟨⟨x0, x1, x2, x3, x4, x5, x6, x7, l, x9⟩, a, cap, rfl, hr, by simp only; omega, w9⟩
theorem okWide_agg {P : Program} {w : World} {r : Reach} {base : Nat} {t : TypeId} {fs : Array Field} {v : Value} (ht : P.underlying t = some (.struct fs)) (h : Value.okWide P w r base t v) : ∃ cs, v = .agg cs ∧ cs.size = P.cellsOf t := by
  simp only [Value.okWide, ht] at h
  obtain ⟨cs, h1, h2, _⟩ := h
  exact ⟨cs, h1, h2⟩
/-- A flat form by value. -/
theorem raw_in {w : World} {b : Nat} {v : Value} (hv : Value.okWide Try.prog w .any b 24 v) (h : Op Try.prog w 24 v.cells.toList) : ∃ (x : Rw) (a : Option Addr) (cap : Nat), v = rwV x (.slice a x.es.length cap) ∧ Rd w 3 a x.es.length (entcs x.es) ∧ x.es.length ≤ 4398046511104 ∧ x.data.length ≤ 140737488351232 := by
  obtain ⟨cs, rfl, _⟩ := okWide_agg Try.underlying24 hv
  obtain ⟨x, a, cap, hx, h1, h2, h3⟩ := op_rw h
  refine ⟨x, a, cap, ?_, h1, h2, h3⟩
  obtain ⟨l⟩ := cs
  have : l = rwc x (.slice a x.es.length cap) := hx
  subst this
  rfl
theorem str_in {w : World} {b : Nat} {v : Value} (hv : Value.okWide Try.prog w .any b 9 v) (h : Op Try.prog w 9 v.cells.toList) : ∃ l : List UInt8, v = Str l ∧ l.length ≤ 140737488351232 := by
  obtain ⟨s, rfl⟩ := okWide_string Try.underlying9 hv
  obtain ⟨l, e, hl⟩ := h.str Try.underlying9
  refine ⟨l, ?_, hl⟩
  have := congrArg List.head? e
  simpa [Value.cells] using this
theorem clean_data (x : Rw) : (cleanL x).data.length ≤ x.data.length := by
  unfold cleanL
  repeat' split
  all_goals simp [rwZ]
end Go.Proofs.Ytihklmomipidaaa
