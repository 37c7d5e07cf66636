/-
  Bounds of a flat form's fields hold of the form without what its kind hasn't. No condition.
-/
import Derived.Test.YtjfaplmojpldhaaZReqC
import Derived.Test.YtjfaplmojpldhaaZReqI
namespace Go.Proofs.Ytjfaplmojpldhaa
open Go.RowKit
set_option linter.unusedSimpArgs false
set_option linter.unusedVariables false

theorem CmB.clean {x : Cm} (h : CmB x) : CmB (cleanC x) := by
  unfold cleanC onlyC
  have z : ∀ (c : Bool) (n : Int), n < 9223372036854775808 → (if c = true then n else 0) < 9223372036854775808 := by intro c n hn; cases c <;> simp [hn]
  have t : ∀ (c : Bool) (s : List UInt8), s.length ≤ 562949953421312 → (if c = true then s else []).length ≤ 562949953421312 := by intro c s hs; cases c <;> simp [hs]
  have a : ∀ d : Da, DaB d → DaB (actL d) := by
    intro d hd
    obtain ⟨h1, h2, h3, h4, h5, h6, h7⟩ := hd
    unfold actL
    repeat' split
    all_goals exact ⟨by first | exact h1 | simp, by first | exact h2 | simp, by first | exact h3 | simp, by first | exact h4 | simp, by first | exact h5 | simp, by first | exact h6 | simp, by first | exact h7 | simp⟩
  have al : ∀ (c : Bool) (l : List Da), (∀ d ∈ l, DaB d) → ∀ d ∈ (if c = true then l.map actL else []), DaB d := by
    intro c l hl d hd
    cases c with
    | false => simp at hd
    | true =>
      simp only [if_true, List.mem_map] at hd
      obtain ⟨d', h1, rfl⟩ := hd
      exact a d' (hl d' h1)
  cases isK x.kind with
  | false => exact ⟨by simp [cmZ], by simp [cmZ], by simp [cmZ], by simp [cmZ], by simp [cmZ], by simp [cmZ], by simp [cmZ], by simp [cmZ], by simp [cmZ], by simp [cmZ], by simp [cmZ], by simp [cmZ], by simp [cmZ], by simp [cmZ], by simp [cmZ]⟩
  | true =>
    refine ⟨h.client, h.seq, z _ _ h.bytes, z _ _ h.keys, z _ _ h.rev, h.token, t _ _ h.name, t _ _ h.other, t _ _ h.word, t _ _ h.salt, t _ _ h.gf, t _ _ h.gt, ?_, al _ _ h.thens, al _ _ h.elses⟩
    intro c hc
    simp only [if_true] at hc
    cases hT : hasT x.kind with
    | false => simp [hT] at hc
    | true => simp [hT] at hc; exact h.ifs c hc
theorem LenS.clean {x : Cm} (h : LenS x) : LenS (cleanC x) := by
  have := clean_lens x
  exact ⟨Nat.le_trans this.1 h.i, Nat.le_trans this.2.1 h.t, Nat.le_trans this.2.2 h.e⟩
end Go.Proofs.Ytjfaplmojpldhaa
