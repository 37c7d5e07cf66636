/-
  HashSums, proved: any text has the digest that the standard's equations give. For every input; no condition beyond the form's own.
-/
import Derived.Test.YtdolfccnlnhngaaHashLaw
import Derived.Test.YtdolfccnlnhngaaHashRefSum
import Derived.Test.YtdolfccnlnhngaaOpen
import Derived.Test.YtdolfccnlnhngaaRows
namespace Go.Proofs.Ytdolfccnlnhngaa
open Go.RowKit Go.ChangeShapes Go.WideShapes Go.ChangeAt
set_option linter.unusedSimpArgs false
set_option linter.unusedVariables false

set_option maxRecDepth 100000 in
set_option maxHeartbeats 1000000 in
theorem sums_any (s : List UInt8) (w : World) (hs : s.length ≤ 140737488351232) :
    Calls Try.prog 3 #[Str s] w fun e w' => e = .returned (.bool true) ∧ Step [] [] w w' := by
  by_cases hout : 2000 < s.length
  · have h1 : (2000 : Int) < s.length := by omega
    clear hout
    go_enter Try.func3, Try.ntmps3
    go_wp2_with fail
    refine (awake_true w).mono ?_
    rintro e w1 ⟨rfl, k1⟩
    go_wp2_with fail
    go_ret
    exact ⟨rfl, k1⟩
  · have h1 : ¬ (2000 : Int) < s.length := by omega
    go_enter Try.func3, Try.ntmps3
    go_wp2_with fail
    refine (awake_true w).mono ?_
    rintro e w1 ⟨rfl, k1⟩
    have K1 := Lib.hid k1
    clear k1
    go_wp2_with fail
    refine (sum_any s _ (by omega)).mono ?_
    rintro e w2 ⟨rfl, k2⟩
    have K2 := Lib.hid (K1.out.trans k2)
    clear k2
    obtain ⟨D, hD⟩ : ∃ D, D = sha s := ⟨_, rfl⟩
    rw [← hD]
    have HD := Lib.hid hD
    clear hD
    go_wp2_with fail
    refine (refSum_any s _ (by omega)).mono ?_
    rintro e w3 ⟨rfl, k3⟩
    have K3 := Lib.hid (K2.out.trans k3)
    clear k3
    rw [← HD.out]
    go_wp2_with fail
    go_ret
    exact ⟨rfl, K3.out⟩

theorem HashSums_walk (v0 : Value) (w : World) {b0 : Nat} (hv0 : Value.okWide Try.prog w .any b0 9 v0) (h0 : Op Try.prog w 9 v0.cells.toList) :
    Calls Try.prog 3 #[v0] w fun e w' => e = .returned (.bool true) ∧ Below w.heap.size w w' := by
  obtain ⟨s, rfl⟩ := okWide_string Try.underlying9 hv0
  obtain ⟨l, e, hl⟩ := h0.str Try.underlying9
  simp [Value.cells] at e
  subst e
  exact (sums_any l w hl).mono fun e w' ⟨he, k⟩ => ⟨he, k.below0⟩

set_option maxRecDepth 100000 in
theorem HashSums_lifted (os : Os) (started : os.Started) (H : Type) (enc : TypeId × Value → H) :
    ReturnsInHanded {} Try.checked os 3 .any (Rows.hashSumsSpec.pre6 enc Try.prog Try.f3 Rows.hashSumsRow.domain false) (Rows.hashSumsSpec.post enc Try.prog Try.f3 false true false false) := by
  refine returnsInHanded_of_change_sized (C := Try.checked) (by kernel_rfl) started (by kernel_rfl) Try.func3
    (ChangeSpec.witness6 (enc := enc) (C := Try.checked) false ⟨#[], #[Str []], []⟩ 8 (by kernel_rfl) (by kernel_rfl) (by kernel_rfl) (by kernel_rfl)) ?_
  intro W base args ds gs before hval0 hW hcnd hsz0 _
  have hval : ∀ (j : Nat) t v, Try.f3.params[j]? = some t → args[j]? = some v → Value.okWide Try.prog W .any base t v := hval0
  have hsz : (DataW.weightsEach Try.prog (Try.f3.params.toList ++ Rows.hashSumsSpec.plain.varTypes Try.prog) (ds ++ gs)).all (· ≤ reachBytes) = true := hsz0
  have hW' := hW
  obtain ⟨p, q, hA0, hV, rfl, hfz, hnd⟩ := hW
  have hA : DataW.TrodAll enc Try.prog W 0 (fun _ => true) true Try.f3.params.toList args.toList ds p := hA0
  rw [Try.params3] at hA hval hsz
  obtain ⟨v0, vs0, d0, ds0, p0, q0, hargs, rfl, rfl, h0, r0⟩ := trodAll_cons hA
  obtain ⟨rfl, rfl, rfl⟩ := trodAll_nil r0
  obtain rfl : args = #[v0] := by cases args; simp_all
  obtain ⟨rfl, rfl⟩ := trodVars_none hV
  have lt0 : ∀ x ∈ p0, x.block < W.heap.size := by obtain ⟨m, hm⟩ := h0; exact DataW.trod_lt m _ _ _ hm
  have o0 := op_of hsz (j := 0) rfl rfl h0
  refine (HashSums_walk v0 W (hval 0 _ v0 rfl rfl) o0).mono fun e W' ⟨he, bel⟩ => ?_
  subst he
  exact ⟨_, rfl, _, _, _, [], _, [], hW', trodAll_mk1 (shut_bool Try.underlying4 _), (trodAll_cons_mk (Below.trod (by kernel_rfl) (by kernel_rfl) (of_decide_eq_true (by kernel_rfl)) h0 bel lt0) trodAll_mk0), rfl, bel.frame _, fun h => by cases h⟩

/-- The statement. -/
theorem HashSums_holds : Rows.HashSumsSaid :=
  OpenClaim.holds_of_wide 3 Try.f3 rfl rfl rfl rfl rfl rfl rfl ⟨rfl, rfl, rfl, rfl, rfl⟩ rfl rfl rfl rfl rfl (by kernel_rfl) Try.func3 (by kernel_rfl)
    (of_decide_eq_true (by kernel_rfl)) (by unfold Func.isWrapper; rw [if_neg (of_decide_eq_false (by kernel_rfl))]; exact ⟨rfl, rfl⟩)
    (fun os started H enc _ => HashSums_lifted os started H enc)
#print axioms HashSums_holds
end Go.Proofs.Ytdolfccnlnhngaa
