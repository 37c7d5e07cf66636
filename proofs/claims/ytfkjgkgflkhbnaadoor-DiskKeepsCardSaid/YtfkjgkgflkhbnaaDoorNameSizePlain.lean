/-
  sizeOf8 by the first four bytes. No condition.
-/
import Derived.Test.YtfkjgkgflkhbnaaDoorNameSize
namespace Go.Proofs.YtfkjgkgflkhbnaaDoor
open Go.RowKit
set_option linter.unusedSimpArgs false
set_option linter.unusedVariables false

def byteAt (s : List UInt8) (i : Nat) : Nat := match s[i]? with
  | some c => c.toNat
  | none => 0
theorem inB_iff (s : List UInt8) (i lo hi : Nat) : inB s i lo hi = true ↔ i < s.length ∧ lo ≤ byteAt s i ∧ byteAt s i ≤ hi := by
  unfold inB byteAt
  by_cases h : i < s.length
  · rw [List.getElem?_eq_getElem h]; simp [h]
  · rw [List.getElem?_eq_none (by omega)]; simp; omega
theorem tl1 (s : List UInt8) : tl s 1 1 = true ↔ inB s 1 128 191 = true := by simp [tl, List.range_succ]
theorem tl2 (s : List UInt8) : tl s 1 2 = true ↔ inB s 1 128 191 = true ∧ inB s 2 128 191 = true := by simp [tl, List.range_succ]
theorem tl3 (s : List UInt8) : tl s 1 3 = true ↔ inB s 1 128 191 = true ∧ inB s 2 128 191 = true ∧ inB s 3 128 191 = true := by simp [tl, List.range_succ, and_assoc]
theorem sizeOf8_eq (s : List UInt8) : sizeOf8 s = szN s.length (byteAt s 0) (byteAt s 1) (byteAt s 2) (byteAt s 3) := by
  unfold sizeOf8 szN
  simp only [tl1, tl2, tl3, inB_iff]
  repeat' split
  all_goals first | rfl | (exfalso; omega)
end Go.Proofs.YtfkjgkgflkhbnaaDoor
