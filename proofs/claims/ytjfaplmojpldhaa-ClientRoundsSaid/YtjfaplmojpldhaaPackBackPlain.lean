/-
  The plain side of PackBack: what was put is read back. No condition.
-/
import Derived.Test.YtjfaplmojpldhaaPackLaw
import Derived.Test.YtjfaplmojpldhaaPackVal
import Derived.Test.YtjfaplmojpldhaaPackR2
namespace Go.Proofs.Ytjfaplmojpldhaa
set_option linter.unusedSimpArgs false
set_option linter.unusedVariables false
set_option maxRecDepth 100000

theorem head_app {α : Type} (l m : List α) (h : l ≠ []) : (l ++ m).head? = l.head? := by
  cases l with
  | nil => exact absurd rfl h
  | cons a l => rfl

theorem be_head (n : Nat) : (be n).head? ≠ some 0 := by
  induction n using Nat.strongRecOn with
  | _ n ih =>
    by_cases h : n = 0
    · subst h; rw [be_zero]; simp
    · rw [be_pos n (by omega)]
      by_cases h2 : n / 256 = 0
      · rw [h2, be_zero]
        simp
        intro e
        have := congrArg UInt8.toNat e
        simp [UInt8.toNat_ofNat'] at this
        omega
      · have h3 : be (n / 256) ≠ [] := fun e => by
          have := val_be (n / 256)
          rw [e] at this
          simp [val] at this
          omega
        rw [head_app _ _ h3]
        exact ih (n / 256) (by omega)

theorem upto_back (n : Nat) (rest : List UInt8) (most : Int) (hn : n ≤ 4611686018427387903) (hm : (n : Int) ≤ most) : upto ⟨numB n ++ rest, false⟩ most = ((n : Int), ⟨rest, false⟩) := by
  have hl := be_len8 n (by omega)
  have hsz : (UInt8.ofNat (be n).length).toNat = (be n).length := by simp [UInt8.toNat_ofNat']; omega
  simp only [upto, numB, List.cons_append, hsz]
  rw [if_neg (by simp), if_neg, List.take_left, List.drop_left, val_be]
  · simp only [uptoFin]
    rw [if_neg (by omega)]
  · rintro (h | h | ⟨h1, h2⟩)
    · simp at h; omega
    · omega
    · rw [head_app _ _ (by intro e; rw [e] at h1; simp at h1)] at h2
      exact be_head n h2

theorem text_back (s rest : List UInt8) (most : Int) (hs : s.length ≤ 4611686018427387903) (hm : (s.length : Int) ≤ most) : rtext ⟨numB s.length ++ s ++ rest, false⟩ most = (s, ⟨rest, false⟩) := by
  rw [rtext, List.append_assoc, upto_back _ _ _ hs hm]
  have : ¬ (s ++ rest).length < s.length := by simp
  simp only [rtake]
  rw [if_neg (by simp)]
  simp

theorem flag_back (b : Bool) (rest : List UInt8) : rflag ⟨numB (if b then 1 else 0) ++ rest, false⟩ = (b, ⟨rest, false⟩) := by
  rw [rflag, upto_back _ _ _ (by split <;> omega) (by split <;> omega)]
  cases b <;> rfl

/-- What was written whole: each thing fits, and the bytes are all of them. -/
theorem written_whole (l : List It) (out bs : List UInt8) (h : written out l = (bs, 0)) :
    bs = out ++ l.flatMap itB ∧ bs.length ≤ max out.length 2097152 ∧ ∀ x ∈ l, (x.k = 0 → 0 ≤ x.n ∧ x.n ≤ 4611686018427387903) ∧ (itB x).length ≤ 2097152 := by
  induction l generalizing out with
  | nil => simp [written] at h; subst h; simp; omega
  | cons x l ih =>
    rw [written] at h
    split at h
    · simp at h
    · split at h
      · simp at h
      · rename_i h1 h2
        obtain ⟨e1, e2, e3⟩ := ih _ h
        refine ⟨by rw [e1]; simp, by simp at e2; omega, fun y hy => ?_⟩
        rcases List.mem_cons.1 hy with rfl | hy
        · exact ⟨fun e => by omega, by omega⟩
        · exact e3 y hy
end Go.Proofs.Ytjfaplmojpldhaa
