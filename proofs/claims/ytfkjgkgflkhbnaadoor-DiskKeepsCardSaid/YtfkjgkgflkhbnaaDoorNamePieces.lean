/-
  A text in pieces: runes, and bytes with which none begins; what is a name, a text for eyes. Plain Lean. No condition.
-/
import Derived.Test.YtfkjgkgflkhbnaaDoorNameItself
namespace Go.Proofs.YtfkjgkgflkhbnaaDoor
open Go.RowKit
set_option linter.unusedSimpArgs false
set_option linter.unusedVariables false

theorem sz_le (r : List UInt8) : sizeOf8 r ≤ r.length := by
  rw [sizeOf8_eq]; unfold szN
  repeat' split
  all_goals omega
theorem sz_le4 (r : List UInt8) : sizeOf8 r ≤ 4 := by
  rw [sizeOf8_eq]; unfold szN
  repeat' split
  all_goals omega
def stepL (r : List UInt8) : Nat := if sizeOf8 r = 0 then 1 else sizeOf8 r
theorem stepL_pos (r : List UInt8) : 1 ≤ stepL r := by unfold stepL; split <;> omega
theorem stepL_le (r : List UInt8) (h : 0 < r.length) : stepL r ≤ r.length := by
  have := sz_le r
  unfold stepL; split <;> omega
theorem stepL_le4 (r : List UInt8) : stepL r ≤ 4 := by
  have := sz_le4 r
  unfold stepL; split <;> omega

/-- The pieces: the bytes of each, and whether they are a rune. -/
def piecesF : Nat → List UInt8 → List (List UInt8 × Bool)
  | 0, _ => []
  | n + 1, r => if r.length = 0 then [] else (r.take (stepL r), decide (sizeOf8 r ≠ 0)) :: piecesF n (r.drop (stepL r))
def pieces (r : List UInt8) : List (List UInt8 × Bool) := piecesF r.length r
theorem piecesF_enough (n : Nat) (r : List UInt8) (h : r.length ≤ n) : piecesF n r = pieces r := by
  induction n using Nat.strongRecOn generalizing r with
  | _ n ih =>
    unfold pieces
    cases n with
    | zero =>
      have : r.length = 0 := by omega
      rw [this]
    | succ n =>
      cases hr : r.length with
      | zero => simp [piecesF, hr]
      | succ m =>
        have h1 := stepL_pos r
        have h2 := stepL_le r (by omega)
        have hl : (r.drop (stepL r)).length = r.length - stepL r := by simp
        simp only [piecesF]
        rw [if_neg (by omega), if_neg (by omega), ih n (by omega) _ (by omega)]
        congr 1
        rcases Nat.lt_or_ge m n with hmn | hmn
        · rw [ih m (by omega) _ (by omega)]
        · have : m = n := by omega
          subst this
          rw [ih m (by omega) _ (by omega)]
theorem pieces_nil : pieces [] = [] := rfl
theorem pieces_cons (r : List UInt8) (h : 0 < r.length) : pieces r = (r.take (stepL r), decide (sizeOf8 r ≠ 0)) :: pieces (r.drop (stepL r)) := by
  have h1 := stepL_pos r
  have h2 := stepL_le r h
  conv => lhs; unfold pieces
  obtain ⟨n, hn⟩ : ∃ n, r.length = n + 1 := ⟨r.length - 1, by omega⟩
  rw [hn]
  simp only [piecesF]
  rw [if_neg (by omega), piecesF_enough n _ (by simp; omega)]
theorem pieces_ok (r : List UInt8) (h : 0 < r.length) (hk : sizeOf8 r ≠ 0) : pieces r = (r.take (sizeOf8 r), true) :: pieces (r.drop (sizeOf8 r)) := by
  rw [pieces_cons r h]
  simp [stepL, hk]
theorem pieces_bad (r : List UInt8) (h : 0 < r.length) (hk : sizeOf8 r = 0) : pieces r = (r.take 1, false) :: pieces (r.drop 1) := by
  rw [pieces_cons r h]
  simp [stepL, hk]

/-! ### Right -/
def nameC (first : Bool) (p : List UInt8) : Bool := match p with
  | [a] => decide (97 ≤ a.toNat ∧ a.toNat ≤ 122) || decide (48 ≤ a.toNat ∧ a.toNat ≤ 57) || decide (a.toNat = 95) || (decide (a.toNat = 45) && !first)
  | _ => itselfB p
def rightP : Bool → List (List UInt8 × Bool) → Bool
  | _, [] => true
  | f, (p, ok) :: l => ok && nameC f p && rightP false l
/-- n pieces are behind, r is ahead. -/
def rightR (f : Bool) (n : Nat) (r : List UInt8) : Bool := rightP f (pieces r) && decide (1 ≤ n + (pieces r).length) && decide (n + (pieces r).length ≤ 24)
def rightL (s : List UInt8) : Bool := rightR true 0 s
theorem rightR_nil (f : Bool) (n : Nat) : rightR f n [] = (decide (1 ≤ n) && decide (n ≤ 24)) := rfl
theorem rightR_ok (f : Bool) (n : Nat) (r : List UInt8) (h : 0 < r.length) (hk : sizeOf8 r ≠ 0) : rightR f n r = (nameC f (r.take (sizeOf8 r)) && rightR false (n + 1) (r.drop (sizeOf8 r))) := by
  simp only [rightR, pieces_ok r h hk, rightP, List.length_cons, Bool.true_and, Bool.and_assoc]
  rw [show n + ((pieces (r.drop (sizeOf8 r))).length + 1) = n + 1 + (pieces (r.drop (sizeOf8 r))).length by omega]
theorem rightR_bad (f : Bool) (n : Nat) (r : List UInt8) (h : 0 < r.length) (hk : sizeOf8 r = 0) : rightR f n r = false := by
  simp [rightR, pieces_bad r h hk, rightP]
theorem rightR_many (f : Bool) (n : Nat) (r : List UInt8) (h : 24 < n) : rightR f n r = false := by
  have : decide (n + (pieces r).length ≤ 24) = false := by simp; omega
  simp [rightR, this]

/-! ### Count -/
def countR (n : Nat) (r : List UInt8) : Int := if (pieces r).all (·.2) then ((n + (pieces r).length : Nat) : Int) else -1
theorem countR_nil (n : Nat) : countR n [] = n := by simp [countR, pieces_nil]
theorem countR_ok (n : Nat) (r : List UInt8) (h : 0 < r.length) (hk : sizeOf8 r ≠ 0) : countR n r = countR (n + 1) (r.drop (sizeOf8 r)) := by
  simp only [countR, pieces_ok r h hk, List.all_cons, Bool.true_and, List.length_cons]
  rw [show n + ((pieces (r.drop (sizeOf8 r))).length + 1) = n + 1 + (pieces (r.drop (sizeOf8 r))).length by omega]
theorem countR_bad (n : Nat) (r : List UInt8) (h : 0 < r.length) (hk : sizeOf8 r = 0) : countR n r = -1 := by
  simp [countR, pieces_bad r h hk]

/-! ### Plain -/
def hexd (n : Nat) : UInt8 := if n < 10 then UInt8.ofNat (48 + n) else UInt8.ofNat (87 + n)
def esc1 (b : UInt8) : List UInt8 := [92, hexd (b.toNat / 16), hexd (b.toNat % 16)]
def escL (p : List UInt8) : List UInt8 := p.flatMap esc1
def eye (x : List UInt8 × Bool) : List UInt8 := if x.2 && itselfB x.1 then x.1 else escL x.1
def plainL (r : List UInt8) : List UInt8 := (pieces r).flatMap eye
theorem plainL_nil : plainL [] = [] := rfl
theorem plainL_self (r : List UInt8) (h : 0 < r.length) (hk : sizeOf8 r ≠ 0) (hi : itselfB (r.take (sizeOf8 r)) = true) : plainL r = r.take (sizeOf8 r) ++ plainL (r.drop (sizeOf8 r)) := by
  simp [plainL, pieces_ok r h hk, eye, hi]
theorem plainL_esc (r : List UInt8) (h : 0 < r.length) (hk : sizeOf8 r ≠ 0) (hi : itselfB (r.take (sizeOf8 r)) = false) : plainL r = escL (r.take (sizeOf8 r)) ++ plainL (r.drop (sizeOf8 r)) := by
  simp [plainL, pieces_ok r h hk, eye, hi]
theorem plainL_bad (r : List UInt8) (h : 0 < r.length) (hk : sizeOf8 r = 0) : plainL r = escL (r.take 1) ++ plainL (r.drop 1) := by
  simp [plainL, pieces_bad r h hk, eye]
theorem escL_len (p : List UInt8) : (escL p).length = 3 * p.length := by
  induction p with
  | nil => rfl
  | cons a p ih => simp only [escL, List.flatMap_cons, List.length_append] at ih ⊢; rw [ih]; simp [esc1]; omega
theorem escL_snoc (p : List UInt8) (b : UInt8) : escL (p ++ [b]) = escL p ++ esc1 b := by simp [escL]
theorem plainL_len (r : List UInt8) : (plainL r).length ≤ 3 * r.length := by
  generalize hn : r.length = n
  induction n using Nat.strongRecOn generalizing r with
  | _ n ih =>
    rcases Nat.eq_zero_or_pos n with h0 | h0
    · have : r = [] := List.eq_nil_of_length_eq_zero (by omega)
      subst this
      simp [plainL_nil]
    · have hr : 0 < r.length := by omega
      have h1 := sz_le r
      by_cases hk : sizeOf8 r = 0
      · rw [plainL_bad r hr hk, List.length_append, escL_len]
        have := ih (n - 1) (by omega) (r.drop 1) (by simp; omega)
        simp only [List.length_take]
        omega
      · have := ih (n - sizeOf8 r) (by omega) (r.drop (sizeOf8 r)) (by simp; omega)
        cases hi : itselfB (r.take (sizeOf8 r)) with
        | true =>
          rw [plainL_self r hr hk hi, List.length_append]
          simp only [List.length_take]
          omega
        | false =>
          rw [plainL_esc r hr hk hi, List.length_append, escL_len]
          simp only [List.length_take]
          omega
end Go.Proofs.YtfkjgkgflkhbnaaDoor
