/-
  Lines that come in, opened. Plain lemmas.
-/
import Derived.Test.YtdiacfbflbenoaaAuditOpen
import Derived.Test.YtdiacfbflbenoaaAuditK
namespace Go.Proofs.Ytdiacfbflbenoaa
open Go.RowKit Go.ChangeShapes Go.WideShapes Go.ChangeAt
set_option linter.unusedSimpArgs false
set_option linter.unusedVariables false
set_option maxRecDepth 100000

/-- Lines, read. -/
theorem op_lines {w : World} {v : Value} (h : Op Try.prog w 27 [v]) : ∃ (a : Option Addr) (cap : Nat) (l : List Ln), v = .slice a l.length cap ∧ l.length ≤ 140737488351232 ∧ Rd w 8 a l.length (lncs l) ∧ ∀ x ∈ l, LnIn x := by
  obtain ⟨a, n, cap, e, h1, h2, h3, h4⟩ := h.slice Try.underlying27 (sz := 8) (by kernel_rfl)
  obtain ⟨l, hl, hr, hq⟩ := rd_of (w := w) lnc 8 (by omega) (fun _ => rfl) LnIn (n := n) (a := a) (fun i hi => by
    obtain ⟨cs', hl', hc, ho⟩ := h4 i hi
    obtain ⟨x, hx, hok⟩ := op_line ho
    subst hx
    exact ⟨x, hc, hok⟩)
  subst hl
  simp at e
  refine ⟨a, cap, l, e, ?_, hr, hq⟩
  have hb : Try.prog.bytesOf 32 = 88 := by kernel_rfl
  rw [hb] at h3
  omega
/-- A line that is not too great is fit. -/
theorem LnIn.ok {x : Ln} (h : LnIn x) (hs : smallLn x = true) : LnOk x := by
  simp only [smallLn, Bool.and_eq_true, Bool.not_eq_true', decide_eq_false_iff_not] at hs
  exact ⟨h.index, h.client, h.seq, h.kind, h.err, by omega, by omega, by omega⟩
end Go.Proofs.Ytdiacfbflbenoaa
