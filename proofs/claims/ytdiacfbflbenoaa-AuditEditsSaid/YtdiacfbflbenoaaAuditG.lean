/-
  What a chain's Verify answers. No condition.
-/
import Derived.Test.YtdiacfbflbenoaaAuditF
namespace Go.Proofs.Ytdiacfbflbenoaa
open Go.RowKit
set_option linter.unusedSimpArgs false
set_option linter.unusedVariables false

set_option maxHeartbeats 2000000 in
theorem verify_any (q : Pt) (l : List Ln) (a : Option Addr) (cap : Nat) (e : Pt) (w : World) (hr : Rd w 8 a l.length (lncs l)) (hl : l.length ≤ 1099511627776) (hx : ∀ x ∈ l, LnOk x) (hh : q.hash.length ≤ 1073741824) :
    Calls Try.prog 17 #[.int .i64 q.count, Str q.hash, .slice a l.length cap, .int .i64 e.count, Str e.hash] w fun r w' => r = .returned (.bool (verifyL q l e)) ∧ Step [] [] w w' := by
  have hw := Lib.hid (walk_any q l a cap w hr hl hx hh)
  unfold verifyL
  generalize walkL q l = r at hw ⊢
  obtain ⟨⟨rc, rh⟩, b⟩ := r
  obtain ⟨ec, eh⟩ := e
  clear hr hx
  go_enter Try.func17, Try.ntmps17
  go_wp2_with fail
  refine hw.out.mono ?_
  rintro e w1 ⟨rfl, k⟩
  have K := Lib.hid k
  have KB := Lib.hid (Blk.new w1 57 #[.int .i64 0, Str []])
  clear k hw
  cases b with
  | false =>
    go_wp2_with fail
    refine bodyPost_ret (results_tmp rfl _ _ _) rfl ⟨?_, K.out.alloc _⟩
    simp
  | true =>
    go_wp2_with fail
    all_goals
      refine bodyPost_ret (results_tmp rfl _ _ _) rfl ⟨?_, K.out.alloc _⟩
      simp [*]
end Go.Proofs.Ytdiacfbflbenoaa
