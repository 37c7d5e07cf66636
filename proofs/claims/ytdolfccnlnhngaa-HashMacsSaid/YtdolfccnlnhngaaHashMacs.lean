/-
  HashMacs, proved: any text under any key has the MAC of the standard. For every input; no condition beyond the form's own.
-/
import Derived.Test.YtdolfccnlnhngaaHashLaw
import Derived.Test.YtdolfccnlnhngaaHashRefMac
import Derived.Test.YtdolfccnlnhngaaOpen
import Derived.Test.YtdolfccnlnhngaaRows
namespace Go.Proofs.Ytdolfccnlnhngaa
open Go.RowKit Go.ChangeShapes Go.WideShapes Go.ChangeAt
set_option linter.unusedSimpArgs false
set_option linter.unusedVariables false

set_option maxRecDepth 100000 in
set_option maxHeartbeats 1000000 in
theorem macs_any (key s : List UInt8) (w : World) (hk : key.length ≤ 140737488351232) (hs : s.length ≤ 140737488351232) :
    Calls Try.prog 6 #[Str key, Str s] w fun e w' => e = .returned (.bool true) ∧ Step [] [] w w' := by
  by_cases hout : 2000 < key.length ∨ 2000 < s.length
  · have hcase : (2000 : Int) < key.length ∨ (¬ (2000 : Int) < key.length ∧ (2000 : Int) < s.length) := by omega
    clear hout
    rcases hcase with h1 | ⟨h1, h2⟩
    all_goals
      go_enter Try.func6, Try.ntmps6
      go_wp2_with fail
      refine (awake_true w).mono ?_
      rintro e w1 ⟨rfl, k1⟩
      go_wp2_with fail
      go_ret
      exact ⟨rfl, k1⟩
  · have h1 : ¬ (2000 : Int) < key.length := by omega
    have h2 : ¬ (2000 : Int) < s.length := by omega
    have h3 : key.length ≤ 2000 := by omega
    have h4 : s.length ≤ 2000 := by omega
    clear hout
    obtain ⟨D, hD⟩ : ∃ D, D = macOf key s := ⟨_, rfl⟩
    have HD := Lib.hid hD
    clear hD
    go_enter Try.func6, Try.ntmps6
    go_wp2_with fail
    refine (awake_true w).mono ?_
    rintro e w1 ⟨rfl, k1⟩
    have K1 := Lib.hid k1
    clear k1
    go_wp2_with fail
    refine (mac_any key s _ (by omega) (by omega)).mono ?_
    rintro e w2 ⟨rfl, k2⟩
    have K2 := Lib.hid (K1.out.trans k2)
    clear k2
    rw [← HD.out]
    go_wp2_with fail
    refine (refMac_any key s _ (by omega) (by omega)).mono ?_
    rintro e w3 ⟨rfl, k3⟩
    have K3 := Lib.hid (K2.out.trans k3)
    clear k3
    rw [← HD.out]
    go_wp2_with fail
    go_ret
    exact ⟨rfl, K3.out⟩

theorem HashMacs_walk (v0 v1 : Value) (w : World) {b0 b1 : Nat} (hv0 : Value.okWide Try.prog w .any b0 9 v0) (h0 : Op Try.prog w 9 v0.cells.toList) (hv1 : Value.okWide Try.prog w .any b1 9 v1) (h1 : Op Try.prog w 9 v1.cells.toList) :
    Calls Try.prog 6 #[v0, v1] w fun e w' => e = .returned (.bool true) ∧ Below w.heap.size w w' := by
  obtain ⟨s, rfl⟩ := okWide_string Try.underlying9 hv0
  obtain ⟨t, rfl⟩ := okWide_string Try.underlying9 hv1
  obtain ⟨l, e, hl⟩ := h0.str Try.underlying9
  simp [Value.cells] at e
  subst e
  obtain ⟨m, e, hm⟩ := h1.str Try.underlying9
  simp [Value.cells] at e
  subst e
  exact (macs_any l m w hl hm).mono fun e w' ⟨he, k⟩ => ⟨he, k.below0⟩

set_option maxRecDepth 100000 in
theorem HashMacs_lifted (os : Os) (started : os.Started) (H : Type) (enc : TypeId × Value → H) :
    ReturnsInHanded {} Try.checked os 6 .any (Rows.hashMacsSpec.pre6 enc Try.prog Try.f6 Rows.hashMacsRow.domain false) (Rows.hashMacsSpec.post enc Try.prog Try.f6 false true false false) := by
  refine returnsInHanded_of_change_sized (C := Try.checked) (by kernel_rfl) started (by kernel_rfl) Try.func6
    (ChangeSpec.witness6 (enc := enc) (C := Try.checked) false ⟨#[], #[Str [], Str []], []⟩ 8 (by kernel_rfl) (by kernel_rfl) (by kernel_rfl) (by kernel_rfl)) ?_
  intro W base args ds gs before hval0 hW hcnd hsz0 _
  have hval : ∀ (j : Nat) t v, Try.f6.params[j]? = some t → args[j]? = some v → Value.okWide Try.prog W .any base t v := hval0
  have hsz : (DataW.weightsEach Try.prog (Try.f6.params.toList ++ Rows.hashMacsSpec.plain.varTypes Try.prog) (ds ++ gs)).all (· ≤ reachBytes) = true := hsz0
  have hW' := hW
  obtain ⟨p, q, hA0, hV, rfl, hfz, hnd⟩ := hW
  have hA : DataW.TrodAll enc Try.prog W 0 (fun _ => true) true Try.f6.params.toList args.toList ds p := hA0
  rw [Try.params6] at hA hval hsz
  obtain ⟨v0, vs0, d0, ds0, p0, q0, hargs, rfl, rfl, h0, r0⟩ := trodAll_cons hA
  obtain ⟨v1, vs1, d1, ds1, p1, q1, rfl, rfl, rfl, h1, r1⟩ := trodAll_cons r0
  obtain ⟨rfl, rfl, rfl⟩ := trodAll_nil r1
  obtain rfl : args = #[v0, v1] := by cases args; simp_all
  obtain ⟨rfl, rfl⟩ := trodVars_none hV
  have lt0 : ∀ x ∈ p0, x.block < W.heap.size := by obtain ⟨m, hm⟩ := h0; exact DataW.trod_lt m _ _ _ hm
  have o0 := op_of hsz (j := 0) rfl rfl h0
  have lt1 : ∀ x ∈ p1, x.block < W.heap.size := by obtain ⟨m, hm⟩ := h1; exact DataW.trod_lt m _ _ _ hm
  have o1 := op_of hsz (j := 1) rfl rfl h1
  refine (HashMacs_walk v0 v1 W (hval 0 _ v0 rfl rfl) o0 (hval 1 _ v1 rfl rfl) o1).mono fun e W' ⟨he, bel⟩ => ?_
  subst he
  exact ⟨_, rfl, _, _, _, [], _, [], hW', trodAll_mk1 (shut_bool Try.underlying4 _), (trodAll_cons_mk (Below.trod (by kernel_rfl) (by kernel_rfl) (of_decide_eq_true (by kernel_rfl)) h0 bel lt0) (trodAll_cons_mk (Below.trod (by kernel_rfl) (by kernel_rfl) (of_decide_eq_true (by kernel_rfl)) h1 bel lt1) trodAll_mk0)), rfl, bel.frame _, fun h => by cases h⟩

/-- The statement. -/
theorem HashMacs_holds : Rows.HashMacsSaid :=
  OpenClaim.holds_of_wide 6 Try.f6 rfl rfl rfl rfl rfl rfl rfl ⟨rfl, rfl, rfl, rfl, rfl⟩ rfl rfl rfl rfl rfl (by kernel_rfl) Try.func6 (by kernel_rfl)
    (of_decide_eq_true (by kernel_rfl)) (by unfold Func.isWrapper; rw [if_neg (of_decide_eq_false (by kernel_rfl))]; exact ⟨rfl, rfl⟩)
    (fun os started H enc _ => HashMacs_lifted os started H enc)
#print axioms HashMacs_holds
end Go.Proofs.Ytdolfccnlnhngaa
