/-
  The document's example (law19's awake), as plain Lean. No condition.
-/
import Derived.Test.YtdiacfbflbenoaaAuditPlain
namespace Go.Proofs.Ytdiacfbflbenoaa
open Go.RowKit
set_option linter.unusedSimpArgs false
set_option linter.unusedVariables false

def lineL (i : Int) (u : List UInt8) : Ln := ⟨i, 1, i, u, 2, 0, List.replicate 32 0, []⟩
def newL : Ch := ⟨⟨0, List.replicate 32 0⟩, []⟩
def hashA : List UInt8 := nextL 0 (List.replicate 32 0) (lineL 3 [97])
theorem hash_ab : (nextL 0 (List.replicate 32 0) (lineL 3 [98]) == hashA) = false := by decide +kernel
def wakeA : Ln := { lineL 3 [97] with hash := hashA }
def wakeB : Ln := { lineL 3 [98] with hash := hashA }
theorem wake_can : canAdd newL (lineL 3 [97]) = true := by
  simp [canAdd, newL, lineL, rightLn, isNumL, headL, lastI]
theorem wake_add : addL newL (lineL 3 [97]) = ⟨⟨0, List.replicate 32 0⟩, [wakeA]⟩ := by
  rw [addL, if_pos wake_can]
  rfl
theorem wake_head : headL ⟨0, List.replicate 32 0⟩ [wakeA] = ⟨1, hashA⟩ := rfl
theorem wake_inv : Inv ⟨⟨0, List.replicate 32 0⟩, [wakeA]⟩ := by
  rw [← wake_add]
  exact Inv.new.add _
theorem wake_yes : verifyL ⟨0, List.replicate 32 0⟩ [wakeA] ⟨1, hashA⟩ = true := wake_inv.verify
theorem wake_no : verifyL ⟨0, List.replicate 32 0⟩ [wakeB] ⟨1, hashA⟩ = false := by
  have h : stepOk ⟨0, List.replicate 32 0⟩ wakeB = false := by
    have h1 := hash_ab
    simp only [beq_eq_false_iff_ne, ne_eq] at h1
    have h2 : ¬ hashA = nextL 0 (List.replicate 32 0) wakeB := fun e => h1 (by rw [e]; rfl)
    simp only [stepOk, Bool.and_eq_false_iff, decide_eq_false_iff_not]
    exact .inl (.inr h2)
  have hw : walkL ⟨0, List.replicate 32 0⟩ [wakeB] = (⟨0, List.replicate 32 0⟩, false) := by
    unfold walkL
    rw [if_pos (by decide)]
    simp only [walkF]
    rw [if_neg (by rw [h]; simp)]
  simp only [verifyL, hw, Bool.false_and]
end Go.Proofs.Ytdiacfbflbenoaa
