/-
  The plain side of layer 3: the bytes of a number (big endian, no leading nought, the length ahead). No condition.
-/
import Derived.WalkKit
namespace Go.Proofs.Ytjfaplmojpldhaa

/-- A number's digits to the base 256, the highest first. -/
def be (n : Nat) : List UInt8 := if n = 0 then [] else be (n / 256) ++ [UInt8.ofNat n]
termination_by n
decreasing_by omega

theorem be_zero : be 0 = [] := by rw [be]; simp
theorem be_pos (n : Nat) (h : 0 < n) : be n = be (n / 256) ++ [UInt8.ofNat n] := by rw [be, if_neg (by omega)]

/-- A number's bytes. -/
def numB (n : Nat) : List UInt8 := UInt8.ofNat (be n).length :: be n

theorem be_len (k : Nat) : ∀ n, n < 256 ^ k → (be n).length ≤ k := by
  induction k with
  | zero => intro n h; simp at h; subst h; rw [be_zero]; simp
  | succ k ih =>
    intro n h
    by_cases h0 : n = 0
    · subst h0; rw [be_zero]; simp
    · rw [be_pos n (by omega), List.length_append]
      have := ih (n / 256) (by rw [Nat.pow_succ] at h; omega)
      simp; omega

theorem numB_len (n : Nat) (h : n < 18446744073709551616) : (numB n).length ≤ 9 := by
  have := be_len 8 n (by omega)
  simp [numB]; omega

theorem pow_step (m k : Nat) (h : m < 256 ^ (k - 1)) (hp : 0 < m) : 2 ≤ k ∧ m / 256 < 256 ^ (k - 1 - 1) := by
  have h1 : k - 1 ≠ 0 := by intro e; rw [e] at h; simp at h; omega
  refine ⟨by omega, ?_⟩
  obtain ⟨j, hj⟩ : ∃ j, k - 1 = j + 1 := ⟨k - 2, by omega⟩
  rw [hj] at h ⊢
  rw [Nat.pow_succ] at h
  simp
  omega

theorem u8_of_mod (m : Nat) : ((UInt8.ofNat m).toNat : Int) = (m : Int) % 256 := by simp [UInt8.toNat_ofNat']
end Go.Proofs.Ytjfaplmojpldhaa
