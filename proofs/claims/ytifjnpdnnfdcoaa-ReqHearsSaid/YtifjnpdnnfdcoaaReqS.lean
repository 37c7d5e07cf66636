/-
  law20's awake. No condition.
-/
import Derived.Test.YtifjnpdnnfdcoaaReqPlain6
import Derived.Test.YtifjnpdnnfdcoaaReqL
import Derived.Test.YtifjnpdnnfdcoaaReqI
import Derived.Test.YtifjnpdnnfdcoaaReqD
namespace Go.Proofs.Ytifjnpdnnfdcoaa
open Go.RowKit
set_option linter.unusedSimpArgs false
set_option linter.unusedVariables false
set_option maxRecDepth 100000

theorem IsReq.shape {w : World} {y : Cm} {v : Value} (h : IsReq w y v) : ∃ (T : TypeId) (V : Value), v = .agg #[.int .i64 y.client, .int .i64 y.seq, Str y.token, .iface T V] := by
  obtain ⟨a1, c1, a2, c2, a3, c3, h1, _⟩ := h.at_
  obtain ⟨T, V, hb⟩ := bodyV_iface y (.slice a1 y.ifs.length c1) (.slice a2 y.thens.length c2) (.slice a3 y.elses.length c3)
  exact ⟨T, V, by rw [h1, hb]⟩
def wakeC : Cm := ⟨1, 2, [], 3, [], [], [], [], 0, 0, [], [], false, false, 3, [], [], []⟩
theorem numB_smallQ (n : Nat) (h0 : 0 < n) (h : n < 256) : numB n = [1, UInt8.ofNat n] := by
  unfold numB
  rw [be_pos n h0, show n / 256 = 0 by omega, be_zero]
  rfl
theorem numB_zeroQ : numB 0 = [0] := by unfold numB; rw [be_zero]; rfl
theorem wakeC_bytes : reqB wakeC = [1, 3, 1, 1, 1, 2, 0, 1, 3] := by
  simp [reqB, reqIts, tailIts, wakeC, itsB_cons, itsB_nil, nI_B, tI_B, numB_smallQ, numB_zeroQ]
theorem wakeC_right : rightC wakeC = true := by
  simp only [rightC, wakeC_bytes]
  decide
theorem wakeC_enc : encC wakeC = ([1, 3, 1, 1, 1, 2, 0, 1, 3], 0) := by rw [encC_right wakeC rfl rfl wakeC_right, wakeC_bytes]
theorem wakeC_dec : decC [1, 3, 1, 1, 1, 2, 0, 1, 3] = some wakeC := by rw [← wakeC_bytes]; exact decC_right rfl rfl wakeC_right
theorem IsReq.wake (w : World) : IsReq w wakeC (.agg #[.int .i64 1, .int .i64 2, .string ⟨#[]⟩, .iface 74 (.agg #[.int .i64 3])]) :=
  ⟨rfl, rfl, ⟨none, 0, none, 0, none, 0, rfl, RdC.nil _ _ rfl rfl rfl⟩, ⟨by simp [wakeC], by simp [wakeC], by simp [wakeC]⟩⟩
theorem wakeC_B : CmB wakeC := ⟨by simp [wakeC], by simp [wakeC], by simp [wakeC], by simp [wakeC], by simp [wakeC], by simp [wakeC], by simp [wakeC], by simp [wakeC], by simp [wakeC], by simp [wakeC], by simp [wakeC], by simp [wakeC], by simp [wakeC], by simp [wakeC], by simp [wakeC]⟩
set_option maxHeartbeats 2000000 in
theorem awake20_true (w : World) : Calls Try.prog 10 #[] w fun e w' => e = .returned (.bool true) ∧ Step [] [] w w' := by
  go_enter Try.func10, Try.ntmps10
  go_wp2_with fail
  refine (encode_any (IsReq.wake _) wakeC_B ⟨by simp [wakeC], by simp [wakeC], by simp [wakeC]⟩).mono ?_
  rintro e w1 ⟨rfl, k1⟩
  rw [wakeC_enc]
  have H1 := Lib.hid k1
  clear k1
  go_wp2_with fail
  refine (decodeQ_any [1, 3, 1, 1, 1, 2, 0, 1, 3] w1 (by simp)).mono ?_
  rintro e w2 ⟨h, k2⟩
  rw [wakeC_dec] at h
  rcases h with ⟨r, m, hr, rfl, hm⟩ | ⟨hr, _⟩
  · injection hr with hr
    subst hr
    have H2 := Lib.hid (And.intro hm k2)
    obtain ⟨T, V, hv⟩ := hm.shape
    subst hv
    have HF := Lib.hid hm.flat
    clear k2 hm
    have ht : wakeC.token = [] := rfl
    rw [ht] at H2 HF ⊢
    go_wp2_with fail
    refine (HF.out _ ((Step.refl [] w2).alloc _)).mono ?_
    rintro e w3 ⟨a1, c1, a2, c2, a3, c3, rfl, _, k3⟩
    have H3 := Lib.hid (((H1.out.trans H2.out.2).alloc _).trans k3)
    have hfd : ∀ W : World, (Instr.field 29 (cmV wakeC (.slice a1 wakeC.ifs.length c1) (.slice a2 wakeC.thens.length c2) (.slice a3 wakeC.elses.length c3)) 11).run Try.prog W = .ok (.int .i64 3) W := fun _ => by kernel_rfl
    clear k3
    go_wp2_with fail
    exact bodyPost_ret (results_tmp rfl _ _ _) rfl ⟨rfl, H3.out⟩
  · cases hr
end Go.Proofs.Ytifjnpdnnfdcoaa
