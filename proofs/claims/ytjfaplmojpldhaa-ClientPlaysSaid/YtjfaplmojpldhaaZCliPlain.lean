/-
  Plain laws of a client: a note is no answer; which node is asked at which tick. No program in sight.
-/
import Derived.Test.YtjfaplmojpldhaaZCliHear
import Derived.Test.YtjfaplmojpldhaaZCliWake
namespace Go.Proofs.Ytjfaplmojpldhaa
open Go.RowKit
set_option linter.unusedSimpArgs false
set_option linter.unusedVariables false
set_option maxRecDepth 100000

theorem ansB_client {x : An} : ∃ r, ansB x = numB x.client.toNat ++ r := by
  refine ⟨itsB (nI x.seq :: nI x.err :: nI x.rev :: fI x.yes :: (otsIts x.outs ++ [tI x.token])), ?_⟩
  simp only [ansB, ansIts, itsB_cons, nI_B]
theorem decA_nul (r : List UInt8) : decA (numB 0 ++ r) = none := by
  cases h : decA (numB 0 ++ r) with
  | none => rfl
  | some x =>
    exfalso
    obtain ⟨h1, h2⟩ := decA_some h
    obtain ⟨q, hq⟩ := ansB_client (x := x)
    have hi := okIds_iff.1 (head_of (rightA_of h1).1).1
    rw [hq] at h2
    have e0 := numQ_back 0 r rfl
    have e1 := numQ_back x.client q (okNum_iff.2 ⟨by omega, by omega⟩)
    rw [← h2] at e1
    have e2 : (0 : Int) = x.client := by
      have := e0.symm.trans e1
      injection this
    omega
/-- A note is no answer. -/
theorem note_ans {s : List UInt8} {e l : Int} (h : rdNote s = (e, l, true)) : decA s = none := by
  unfold rdNote at h
  split at h
  · rename_i hz
    obtain ⟨g1, g2, g3⟩ := uptoQ_w (rend_nilN hz)
    obtain ⟨g4, g5, g6⟩ := uptoQ_w g1
    obtain ⟨g7, g8, g9⟩ := uptoQ_w g4
    have g8' := okNum_iff.1 g8
    have hz0 : (upto ⟨s, false⟩ 0).1.toNat = 0 := by omega
    rw [hz0] at g7
    injection g7 with g7
    rw [g7]
    exact decA_nul _
  · simp at h
/-! ### rounds -/
def roundS : List UInt8 := [1, 3, 1, 2, 1, 1, 0, 1, 5]
/-- The request is open; the numbers stand. -/
structure Live (k : Ct) (n p : Nat) : Prop where
  op : k.op = roundS
  size : k.size = n
  pat : k.pat = p
  ans : k.ans = anZ
theorem Live.ne {k : Ct} {n p : Nat} (h : Live k n p) : ¬ k.op = [] := by rw [h.op]; simp [roundS]
theorem Live.tick {k : Ct} {n p : Nat} (h : Live k n p) (hb : CtB k) : Live (tickC k).1 n p ∧ ((∃ t : Nat, 1 ≤ t ∧ t ≤ n ∧ (tickC k).2 = ((t : Int), roundS, true)) ∨ (tickC k).2 = (0, [], false)) := by
  have hs := h.size
  have ht := hb.target
  obtain ⟨t, he⟩ : ∃ t : Nat, k.target = t := ⟨k.target.toNat, by omega⟩
  have hn : 0 < n := by omega
  unfold tickC
  rw [if_neg h.ne]
  split
  · refine ⟨⟨h.op, h.size, h.pat, h.ans⟩, .inl ⟨t % n + 1, by omega, by have := Nat.mod_lt t hn; omega, ?_⟩⟩
    simp only [h.op, hs, he]
    rw [show ((t : Int).tmod (n : Int)) = ((t % n : Nat) : Int) by rw [Int.ofNat_tmod]]
    simp
  · split
    · exact ⟨⟨h.op, h.size, h.pat, h.ans⟩, .inl ⟨t, by omega, by omega, by simp only [h.op, he]⟩⟩
    · exact ⟨⟨h.op, h.size, h.pat, h.ans⟩, .inr rfl⟩
/-- Who was asked so far. -/
def Met (bs : List Bool) (n p t w i : Nat) : Prop := bs.length = 8 ∧ ∀ j, w ≤ j * p → j * p < w + i → bs[(t - 1 + j) % n + 1]? = some true
theorem Met.all {bs : List Bool} {n p t w : Nat} (h : Met bs n p t w (n * p + 1)) (hp : 1 ≤ p) (hn : 1 ≤ n) (hw : w ≤ p) {k : Nat} (h1 : 1 ≤ k) (h2 : k ≤ n) : bs[k]? = some true := by
  obtain ⟨j0, hj⟩ : ∃ j, j = if w = 0 then 0 else 1 := ⟨_, rfl⟩
  have hA := Nat.mod_lt (t - 1 + j0) (show 0 < n by omega)
  obtain ⟨A, hAe⟩ : ∃ A, A = (t - 1 + j0) % n := ⟨_, rfl⟩
  rw [← hAe] at hA
  obtain ⟨r, hr⟩ : ∃ r, r = (k - 1 + n - A) % n := ⟨_, rfl⟩
  have hrl : r < n := by rw [hr]; exact Nat.mod_lt _ (by omega)
  have e : (t - 1 + (j0 + r)) % n = k - 1 := by
    rw [← Nat.add_assoc, Nat.add_mod, ← hAe, hr, Nat.mod_mod, Nat.add_mod_mod, show A + (k - 1 + n - A) = k - 1 + n by omega, Nat.add_mod_right]
    exact Nat.mod_eq_of_lt (by omega)
  have h9 := h.2 (j0 + r) ?_ ?_
  · rw [e, show k - 1 + 1 = k by omega] at h9
    exact h9
  · split at hj
    · omega
    · rw [hj]
      have : 1 * p ≤ (1 + r) * p := Nat.mul_le_mul_right _ (by omega)
      omega
  · split at hj
    · have : (j0 + r) * p ≤ n * p := Nat.mul_le_mul_right _ (by omega)
      omega
    · have : (j0 + r) * p ≤ n * p := Nat.mul_le_mul_right _ (by omega)
      omega
end Go.Proofs.Ytjfaplmojpldhaa
