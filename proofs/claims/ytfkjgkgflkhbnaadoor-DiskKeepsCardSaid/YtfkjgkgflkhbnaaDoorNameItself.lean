/-
  Layer 4's reference: itself. Condition: at most 2^40 bytes.
-/
import Derived.Test.YtfkjgkgflkhbnaaDoorNameSizePlain
namespace Go.Proofs.YtfkjgkgflkhbnaaDoor
open Go.RowKit
set_option linter.unusedSimpArgs false
set_option linter.unusedVariables false

def itselfB : List UInt8 → Bool
  | [] => false
  | [a] => decide (32 ≤ a.toNat ∧ a.toNat ≤ 126 ∧ a.toNat ≠ 92)
  | [a, b] => if a.toNat = 194 then decide (161 ≤ b.toNat) else true
  | _ :: _ :: _ :: _ => true

set_option maxRecDepth 100000 in
set_option maxHeartbeats 1000000 in
theorem itself_any (r : List UInt8) (w : World) (hs : r.length ≤ 1099511627776) :
    Calls Tryd.prog 48 #[Str r] w fun e w' => e = .returned (.bool (itselfB r)) ∧ w = w' := by
  match r, hs with
  | [], hs =>
    go_enter Tryd.func48, Tryd.ntmps48
    go_wp2_with fail
    go_ret
    exact ⟨rfl, rfl⟩
  | [a], hs =>
    have hc : (¬ (32 : Int) ≤ a.toNat) ∨ ((32 : Int) ≤ a.toNat ∧ ¬ (a.toNat : Int) ≤ 126) ∨ ((32 : Int) ≤ a.toNat ∧ (a.toNat : Int) ≤ 126 ∧ (a.toNat : Int) = 92) ∨ ((32 : Int) ≤ a.toNat ∧ (a.toNat : Int) ≤ 126 ∧ ¬ (a.toNat : Int) = 92) := by omega
    rcases hc with h | ⟨h1, h2⟩ | ⟨h1, h2, h3⟩ | ⟨h1, h2, h3⟩
    all_goals
      go_enter Tryd.func48, Tryd.ntmps48
      go_wp2_with fail
      go_ret
      refine ⟨?_, rfl⟩
      simp [itselfB]
      first | done | omega | (rw [Bool.eq_iff_iff]; simp; omega)
  | [a, b], hs =>
    by_cases h : a.toNat = 194
    · have h' : (a.toNat : Int) = 194 := by omega
      have hc : (161 : Int) ≤ b.toNat ∨ ¬ (161 : Int) ≤ b.toNat := by omega
      rcases hc with h1 | h1
      all_goals
        go_enter Tryd.func48, Tryd.ntmps48
        go_wp2_with fail
        go_ret
        refine ⟨?_, rfl⟩
        simp [itselfB, h]
        try omega
    · have h' : ¬ (a.toNat : Int) = 194 := by omega
      go_enter Tryd.func48, Tryd.ntmps48
      go_wp2_with fail
      go_ret
      refine ⟨?_, rfl⟩
      simp [itselfB, h]
  | a :: b :: c :: rest, hs =>
    simp at hs
    go_enter Tryd.func48, Tryd.ntmps48
    go_wp2_with fail
    go_ret
    refine ⟨?_, rfl⟩
    simp [itselfB]
    try omega
end Go.Proofs.YtfkjgkgflkhbnaaDoor
