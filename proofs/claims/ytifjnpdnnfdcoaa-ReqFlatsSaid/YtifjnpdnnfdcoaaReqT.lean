/-
  Kind, by the body's own method. No condition.
-/
import Derived.Test.YtifjnpdnnfdcoaaReqD
import Derived.Test.YtifjnpdnnfdcoaaReqL
import Derived.Test.YtifjnpdnnfdcoaaOpen
namespace Go.Proofs.Ytifjnpdnnfdcoaa
open Go.RowKit Go.Lib Go.ChangeShapes Go.WideShapes Go.ChangeAt
set_option linter.unusedSimpArgs false
set_option linter.unusedVariables false
set_option maxRecDepth 100000

theorem rmt1 (n : Nat) (u : Value) (W : World) : (method (n + 1) 59 u "Kind").run Try.prog W = .ok (57, u) W := by kernel_rfl
theorem rna1 (n : Nat) (u : Value) (W : World) : (nilAhead (n + 1) 59 u "Kind").run Try.prog W = .ok (some false) W := by kernel_rfl
theorem ren1 (u : Value) (W : World) : (callFunc 57 #[u]).run Try.prog W = .ok (.enter 57 #[u]) W := by kernel_rfl
theorem rmt2 (n : Nat) (u : Value) (W : World) : (method (n + 1) 55 u "Kind").run Try.prog W = .ok (58, u) W := by kernel_rfl
theorem rna2 (n : Nat) (u : Value) (W : World) : (nilAhead (n + 1) 55 u "Kind").run Try.prog W = .ok (some false) W := by kernel_rfl
theorem ren2 (u : Value) (W : World) : (callFunc 58 #[u]).run Try.prog W = .ok (.enter 58 #[u]) W := by kernel_rfl
theorem rmt3 (n : Nat) (u : Value) (W : World) : (method (n + 1) 74 u "Kind").run Try.prog W = .ok (59, u) W := by kernel_rfl
theorem rna3 (n : Nat) (u : Value) (W : World) : (nilAhead (n + 1) 74 u "Kind").run Try.prog W = .ok (some false) W := by kernel_rfl
theorem ren3 (u : Value) (W : World) : (callFunc 59 #[u]).run Try.prog W = .ok (.enter 59 #[u]) W := by kernel_rfl
theorem rmt4 (n : Nat) (u : Value) (W : World) : (method (n + 1) 85 u "Kind").run Try.prog W = .ok (100, u) W := by kernel_rfl
theorem rna4 (n : Nat) (u : Value) (W : World) : (nilAhead (n + 1) 85 u "Kind").run Try.prog W = .ok (some false) W := by kernel_rfl
theorem ren4 (u : Value) (W : World) : (callFunc 100 #[u]).run Try.prog W = .ok (.enter 100 #[u]) W := by kernel_rfl
theorem kindA_any (x : Cm) (w : World) : Calls Try.prog 100 #[adV x] w fun e w' => e = .returned (.int .i64 x.kind) ∧ Step [] [] w w' := by
  go_enter Try.func100, Try.ntmps100
  go_wp2_with fail
  exact bodyPost_ret (results_tmp rfl _ _ _) rfl ⟨rfl, (Step.refl [] w).alloc _⟩
structure KindBy (x : Cm) (T : TypeId) (u : Value) (F : FuncId) : Prop where
  method : ∀ (n : Nat) (W : World), (method (n + 1) T u "Kind").run Try.prog W = .ok (F, u) W
  ahead : ∀ (n : Nat) (W : World), (nilAhead (n + 1) T u "Kind").run Try.prog W = .ok (some false) W
  enter : ∀ (W : World), (callFunc F #[u]).run Try.prog W = .ok (.enter F #[u]) W
  call : ∀ W, Calls Try.prog F #[u] W fun e w' => e = .returned (.int .i64 x.kind) ∧ Step [] [] W w'
theorem IsReq.kindBy {w : World} {y : Cm} {v : Value} (h : IsReq w y v) : ∃ T u F, v = .agg #[.int .i64 y.client, .int .i64 y.seq, Str y.token, .iface T u] ∧ KindBy y T u F := by
  obtain ⟨a1, c1, a2, c2, a3, c3, h1, h2⟩ := h.at_
  rcases isK_cases h.kind with hk | hk | hk | hk
  · rw [bodyV, if_pos hk] at h1
    exact ⟨_, _, _, h1, fun n W => rmt1 n _ W, fun n W => rna1 n _ W, fun W => ren1 _ W, fun W => by rw [hk]; exact kind1_any _ _ .nilIface W⟩
  · rw [bodyV, if_neg (by omega), if_pos hk] at h1
    exact ⟨_, _, _, h1, fun n W => rmt2 n _ W, fun n W => rna2 n _ W, fun W => ren2 _ W, fun W => by rw [hk]; exact kind2_any _ _ _ W⟩
  · rw [bodyV, if_neg (by omega), if_neg (by omega), if_pos hk] at h1
    exact ⟨_, _, _, h1, fun n W => rmt3 n _ W, fun n W => rna3 n _ W, fun W => ren3 _ W, fun W => by rw [hk]; exact kind3_any _ .nilIface .nilIface W⟩
  · rw [bodyV, if_neg (by omega), if_neg (by omega), if_neg (by omega)] at h1
    exact ⟨_, _, _, h1, fun n W => rmt4 n _ W, fun n W => rna4 n _ W, fun W => ren4 _ W, fun W => kindA_any y W⟩
end Go.Proofs.Ytifjnpdnnfdcoaa
