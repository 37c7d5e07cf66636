/-
  law10's awake. No condition.
-/
import Derived.Test.YtihklmomipidaaaMsgJ
import Derived.Test.YtihklmomipidaaaMsgPlain2
namespace Go.Proofs.Ytihklmomipidaaa
open Go.RowKit
set_option linter.unusedSimpArgs false
set_option linter.unusedVariables false
set_option maxRecDepth 100000

def voteL : Rw := ⟨2, 2, 3, 0, 0, 0, 0, true, [], []⟩
theorem numB_small (n : Nat) (h0 : 0 < n) (h : n < 256) : numB n = [1, UInt8.ofNat n] := by
  unfold numB
  rw [be_pos n h0, show n / 256 = 0 by omega, be_zero]
  rfl
theorem voteL_right : rightR voteL = true := by decide
theorem voteL_bytes : msgB voteL = [1, 2, 1, 2, 1, 3, 1, 1] := by
  simp [msgB, msgIts, voteL, nIt_B, fIt_B, numB_small]
theorem voteL_enc : encL voteL = ([1, 2, 1, 2, 1, 3, 1, 1], 0) := by rw [encL_ok voteL rfl voteL_right, voteL_bytes]
theorem voteL_dec : decL [1, 2, 1, 2, 1, 3, 1, 1] = some voteL := by rw [← voteL_bytes]; exact dec_enc voteL rfl rfl voteL_right
theorem IsMsg.vote (w : World) : IsMsg w voteL (.iface 55 (.agg #[.int .i64 2, .int .i64 3, .bool true])) :=
  ⟨rfl, rfl, ⟨none, 0, rfl, (Row.none w 3).rd⟩, by simp [voteL]⟩
set_option maxHeartbeats 2000000 in
theorem awake10_true (w : World) : Calls Try.prog 8 #[] w fun e w' => e = .returned (.bool true) ∧ Step [] [] w w' := by
  go_enter Try.func8, Try.ntmps8
  go_wp2_with fail
  refine (encode_any (IsMsg.vote w) (by simp [voteL])).mono ?_
  rintro e w1 ⟨rfl, k1⟩
  rw [voteL_enc]
  have H1 := Lib.hid k1
  clear k1
  go_wp2_with fail
  refine (decode_any [1, 2, 1, 2, 1, 3, 1, 1] w1 (by simp)).mono ?_
  rintro e w2 ⟨h, k2⟩
  rw [voteL_dec] at h
  rcases h with ⟨r, m, hr, rfl, hm, _⟩ | ⟨hr, _⟩
  · injection hr with hr
    subst hr
    have H2 := Lib.hid (And.intro hm (H1.out.trans k2))
    obtain ⟨T, u, F, rfl, hF⟩ := hm.flat
    have HF := Lib.hid hF
    have m1 := hF.method
    have m2 := hF.ahead
    have m3 := hF.enter
    clear k2 hF hm
    go_wp2_with fail
    refine (HF.out.call w2 (Step.refl _ _)).mono ?_
    rintro e w3 ⟨a, cap, rfl, r3, k3⟩
    have H3 := Lib.hid (H2.out.2.trans k3)
    have hfd : ∀ W : World, (Instr.field 24 (rwV voteL (.slice a voteL.es.length cap)) 2).run Try.prog W = .ok (.int .i64 3) W := fun _ => by kernel_rfl
    clear m1 m2 m3 k3 r3
    go_wp2_with fail
    exact bodyPost_ret (results_tmp rfl _ _ _) rfl ⟨rfl, H3.out⟩
  · cases hr
end Go.Proofs.Ytihklmomipidaaa
