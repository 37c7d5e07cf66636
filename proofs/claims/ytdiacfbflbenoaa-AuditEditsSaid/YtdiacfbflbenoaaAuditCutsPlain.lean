/-
  A chain and the same one cut, as plain Lean. No condition.
-/
import Derived.Test.YtdiacfbflbenoaaAuditPlain
namespace Go.Proofs.Ytdiacfbflbenoaa
open Go.RowKit
set_option linter.unusedSimpArgs false
set_option linter.unusedVariables false

def CutRel (c d : Ch) : Prop := ∃ pre, d.base = headL c.base pre ∧ c.ls = pre ++ d.ls
theorem headL_append (b : Pt) (p q : List Ln) : headL b (p ++ q) = headL (headL b p) q := by
  rcases List.eq_nil_or_concat q with h | ⟨ys, y, h⟩
  · subst h
    simp [headL_nil]
  · rw [List.concat_eq_append] at h
    subst h
    rw [← List.append_assoc, headL_snoc, headL_snoc, headL_count, List.length_append]
    congr 1
    omega
theorem CutRel.head {c d : Ch} (h : CutRel c d) : headL c.base c.ls = headL d.base d.ls := by
  obtain ⟨pre, h1, h2⟩ := h
  rw [h2, h1, headL_append]
theorem CutRel.refl (c : Ch) : CutRel c c := ⟨[], rfl, rfl⟩
theorem CutRel.cut (c : Ch) (n : Int) : CutRel c (cutL c n) := by
  unfold cutL
  split
  · exact ⟨c.ls.take (n - c.base.count).toNat, rfl, (List.take_append_drop _ _).symm⟩
  · exact CutRel.refl c
theorem lastI_append (p q : List Ln) (h : q ≠ []) : lastI (p ++ q) = lastI q := by
  unfold lastI
  rw [List.getLast?_append]
  cases hq : q.getLast? with
  | none => exact absurd (List.getLast?_eq_none_iff.1 hq) h
  | some y => rfl
theorem CutRel.can {c d : Ch} (h : CutRel c d) (x : Ln) (hd : d.ls ≠ []) : canAdd c x = canAdd d x := by
  have hh := h.head
  obtain ⟨pre, h1, h2⟩ := h
  simp only [canAdd, hh]
  rw [h2, lastI_append _ _ hd]
theorem CutRel.added {c d : Ch} (h : CutRel c d) (x : Ln) : addedL c x = addedL d x := by
  simp only [addedL, h.head]
theorem CutRel.add {c d : Ch} (h : CutRel c d) (x : Ln) (he : canAdd c x = canAdd d x) : CutRel (addL c x) (addL d x) := by
  have ha := h.added x
  cases hc : canAdd c x with
  | false =>
    have hd : canAdd d x = false := by rw [← he, hc]
    simp only [addL, hc, hd]
    exact h
  | true =>
    have hd : canAdd d x = true := by rw [← he, hc]
    obtain ⟨pre, h1, h2⟩ := h
    simp only [addL, hc, hd, if_true]
    exact ⟨pre, h1, by simp only [h2, ha, List.append_assoc]⟩
theorem CutRel.one {c d : Ch} (h : CutRel c d) (x : Ln) (he : canAdd c x ≠ canAdd d x) : (addL d x).ls.length ≤ 1 := by
  have hd : d.ls = [] := Classical.byContradiction fun hn => he (h.can x hn)
  unfold addL
  split <;> simp [hd]
theorem CutRel.last {c d : Ch} (h : CutRel c d) (hc : c.base.count = 0) : ∃ k : Nat, d.base.count = k ∧ k ≤ c.ls.length ∧ c.ls.drop k = d.ls := by
  obtain ⟨pre, h1, h2⟩ := h
  refine ⟨pre.length, ?_, ?_, ?_⟩
  · rw [h1, headL_count, hc]; omega
  · rw [h2]; simp
  · rw [h2]; simp
theorem addL_base (c : Ch) (x : Ln) : (addL c x).base = c.base := by unfold addL; split <;> rfl
theorem addL_len (c : Ch) (x : Ln) : (addL c x).ls.length ≤ c.ls.length + 1 := by unfold addL; split <;> simp
theorem cutL_len (c : Ch) (n : Int) : (cutL c n).ls.length ≤ c.ls.length := by unfold cutL; split <;> simp
end Go.Proofs.Ytdiacfbflbenoaa
