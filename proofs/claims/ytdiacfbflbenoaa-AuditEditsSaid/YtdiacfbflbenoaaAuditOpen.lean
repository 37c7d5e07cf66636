/-
  A line that comes in, opened. Plain lemmas.
-/
import Derived.Test.YtdiacfbflbenoaaAuditLaw
import Derived.Test.YtdiacfbflbenoaaOpen
namespace Go.Proofs.Ytdiacfbflbenoaa
open Go.RowKit Go.ChangeShapes Go.WideShapes Go.ChangeAt
set_option linter.unusedSimpArgs false
set_option linter.unusedVariables false
set_option maxRecDepth 100000

theorem wf_int64 {x : Int} (h : (Lit.int .i64 x).wf = true) : -9223372036854775808 ≤ x ∧ x < 9223372036854775808 := by
  simp [Lit.wf, IntKind.min, IntKind.max, IntKind.signed, IntKind.bits] at h
  omega
theorem okWide_struct {P : Program} {w : World} {r : Reach} {base : Nat} {t : TypeId} {fs : Array Field} {v : Value} (ht : P.underlying t = some (.struct fs)) (h : Value.okWide P w r base t v) : ∃ cs, v = .agg cs ∧ cs.size = P.cellsOf t := by
  simp only [Value.okWide, ht] at h
  obtain ⟨cs, h1, h2, _⟩ := h
  exact ⟨cs, h1, h2⟩
/-- A line whose numbers are ints and whose texts are within the reach. -/
structure LnIn (x : Ln) : Prop where
  index : -9223372036854775808 ≤ x.index ∧ x.index < 9223372036854775808
  client : -9223372036854775808 ≤ x.client ∧ x.client < 9223372036854775808
  seq : -9223372036854775808 ≤ x.seq ∧ x.seq < 9223372036854775808
  kind : -9223372036854775808 ≤ x.kind ∧ x.kind < 9223372036854775808
  err : -9223372036854775808 ≤ x.err ∧ x.err < 9223372036854775808
  user : x.user.length ≤ 140737488351232
  digest : x.digest.length ≤ 140737488351232
  hash : x.hash.length ≤ 140737488351232
theorem op_line {w : World} {cs : List Value} (h : Op Try.prog w 32 cs) : ∃ x : Ln, cs = lnc x ∧ LnIn x := by
  obtain ⟨hl, hf⟩ := h.struct Try.underlying32
  rw [show Try.prog.cellsOf 32 = 8 by kernel_rfl] at hl
  obtain ⟨c0, c1, c2, c3, c4, c5, c6, c7, rfl⟩ : ∃ a b c d e f g h, cs = [a, b, c, d, e, f, g, h] := by
    match cs, hl with
    | [a, b, c, d, e, f, g, h], _ => exact ⟨a, b, c, d, e, f, g, h, rfl⟩
  have g0 := h.field Try.underlying32 0 3 rfl (by kernel_rfl) rfl
  have g1 := h.field Try.underlying32 1 3 rfl (by kernel_rfl) rfl
  have g2 := h.field Try.underlying32 2 3 rfl (by kernel_rfl) rfl
  have g3 := h.field Try.underlying32 3 9 rfl (by kernel_rfl) rfl
  have g4 := h.field Try.underlying32 4 3 rfl (by kernel_rfl) rfl
  have g5 := h.field Try.underlying32 5 30 rfl (by kernel_rfl) rfl
  have g6 := h.field Try.underlying32 6 9 rfl (by kernel_rfl) rfl
  have g7 := h.field Try.underlying32 7 9 rfl (by kernel_rfl) rfl
  obtain ⟨i, e0, w0⟩ := g0.int Try.underlying3
  obtain ⟨c, e1, w1⟩ := g1.int Try.underlying3
  obtain ⟨s, e2, w2⟩ := g2.int Try.underlying3
  obtain ⟨u, e3, w3⟩ := g3.str Try.underlying9
  obtain ⟨k, e4, w4⟩ := g4.int Try.underlying3
  obtain ⟨r, e5, w5⟩ := g5.int Try.underlying30
  obtain ⟨d, e6, w6⟩ := g6.str Try.underlying9
  obtain ⟨a, e7, w7⟩ := g7.str Try.underlying9
  simp at e0 e1 e2 e3 e4 e5 e6 e7
  subst e0 e1 e2 e3 e4 e5 e6 e7
  exact ⟨⟨i, c, s, u, k, r, d, a⟩, rfl, wf_int64 w0, wf_int64 w1, wf_int64 w2, wf_int64 w4, wf_int64 w5, w3, w6, w7⟩
/-- A line by value. -/
theorem line_in {w : World} {b : Nat} {v : Value} (hv : Value.okWide Try.prog w .any b 32 v) (h : Op Try.prog w 32 v.cells.toList) : ∃ x : Ln, v = lnV x ∧ LnIn x := by
  obtain ⟨cs, rfl, _⟩ := okWide_struct Try.underlying32 hv
  obtain ⟨x, hx, hok⟩ := op_line h
  refine ⟨x, ?_, hok⟩
  obtain ⟨l⟩ := cs
  have : l = lnc x := hx
  subst this
  rfl
end Go.Proofs.Ytdiacfbflbenoaa
