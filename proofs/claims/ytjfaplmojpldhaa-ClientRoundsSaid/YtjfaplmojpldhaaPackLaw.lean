/-
  Layer 3's statements: awake, tame; the writers' way and the reference's agree. Conditions: texts of at most 2^49 bytes.
-/
import Derived.Test.YtjfaplmojpldhaaPackRef
namespace Go.Proofs.Ytjfaplmojpldhaa
open Go.RowKit
set_option linter.unusedSimpArgs false
set_option linter.unusedVariables false
set_option maxRecDepth 100000

/-! ### The plain law -/
theorem wput_fault (st : WS) (s : List UInt8) (h : st.f ≠ 0) : wput st s = st := by simp [wput, h]
theorem wone_fault (st : WS) (x : It) (h : st.f ≠ 0) : wone st x = st := by
  unfold wone wtext wflag wnum
  split
  · exact wput_fault _ _ h
  · split
    · exact wput_fault _ _ h
    · rw [if_neg (by simp [h])]; exact wput_fault _ _ h
theorem fold_fault (l : List It) (st : WS) (h : st.f ≠ 0) : l.foldl wone st = st := by
  induction l generalizing st with
  | nil => rfl
  | cons x l ih => rw [List.foldl_cons, wone_fault st x h, ih st h]

/-- Tame: the three kinds. -/
def It.tame (x : It) : Prop := x.k = 0 ∨ x.k = 1 ∨ x.k = 2

theorem wone_ok (out : List UInt8) (x : It) (ht : x.tame) :
    wone ⟨out, 0⟩ x = if x.k = 0 ∧ (x.n < 0 ∨ 4611686018427387903 < x.n) then ⟨out, 1⟩ else if 2097152 < out.length + (itB x).length then ⟨out, 2⟩ else ⟨out ++ itB x, 0⟩ := by
  obtain ⟨k, n, s, b⟩ := x
  rcases ht with h | h | h <;> simp only at h <;> subst h
  · simp only [wone, itB, wnum]
    by_cases h1 : n < 0 ∨ 4611686018427387903 < n
    · simp [h1]
    · simp [h1, wput]
  · simp [wone, wtext, itB, wput]
  · simp [wone, wflag, itB, wput]

theorem fold_written (l : List It) (out : List UInt8) (ht : ∀ x ∈ l, x.tame) : wbytes (l.foldl wone ⟨out, 0⟩) = written out l := by
  induction l generalizing out with
  | nil => simp [wbytes, written]
  | cons x l ih =>
    rw [List.foldl_cons, wone_ok out x (ht x (by simp)), written]
    split
    · rw [fold_fault _ _ (by simp)]; simp [wbytes]
    · split
      · rw [fold_fault _ _ (by simp)]; simp [wbytes]
      · exact ih _ fun y hy => ht y (by simp [hy])

/-! ### awake -/
theorem awake_plain : wbytes (wtext (wnum ⟨[], 0⟩ 300) [97, 98]) = ([2, 1, 44, 1, 2, 97, 98], 0) := by
  have h1 : numB 300 = [2, 1, 44] := by simp [numB, be_pos, be_zero]
  have h2 : numB 2 = [1, 2] := by simp [numB, be_pos, be_zero]
  simp [wbytes, wtext, wnum, wput, h1, h2]

end Go.Proofs.Ytjfaplmojpldhaa
