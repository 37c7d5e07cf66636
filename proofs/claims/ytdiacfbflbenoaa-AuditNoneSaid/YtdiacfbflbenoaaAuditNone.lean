/-
  AuditNone: a chain that isn't there has nothing. No condition beyond the row's.
-/
import Derived.Test.YtdiacfbflbenoaaAuditOpen
import Derived.Test.YtdiacfbflbenoaaRows
namespace Go.Proofs.Ytdiacfbflbenoaa
open Go.RowKit Go.Lib Go.ChangeShapes Go.WideShapes Go.ChangeAt
set_option linter.unusedSimpArgs false
set_option linter.unusedVariables false
set_option maxRecDepth 100000

set_option maxHeartbeats 2000000 in
theorem none19_any (x : Ln) (n : Int) (w : World) : Calls Try.prog 5 #[lnV x, .int .i64 n] w fun e w' => e = .returned (.bool true) ∧ Step [] [] w w' := by
  have HB : Hid (Blk (w.alloc (.cells (lnc x).toArray 32)) w.heap.size 32 (lnc x).toArray ∧ Step [] [] w (w.alloc (.cells (lnc x).toArray 32))) := ⟨Blk.new w _ _, (Step.refl [] w).alloc _⟩
  go_enter Try.func5, Try.ntmps5
  go_wp2_with fail
  refine (awake19_true _).mono ?_
  rintro e w1 ⟨rfl, k1⟩
  have H1 : Hid (Blk w1 w.heap.size 32 (lnc x).toArray ∧ Step [] [] w w1) := ⟨HB.out.1.step k1 (by simp), HB.out.2.trans k1⟩
  clear k1 HB
  have bl := H1.out.1.ln
  have ll := H1.out.1.lt
  go_wp2_with fail
  refine (base_nil w1).mono ?_
  rintro e w2 ⟨rfl, rfl⟩
  go_wp2_with fail
  refine (headOut_nil w1).mono ?_
  rintro e w2 ⟨rfl, rfl⟩
  go_wp2_with fail
  refine (add_nil x w1).mono ?_
  rintro e w2 ⟨rfl, k2⟩
  have H2 := Lib.hid (H1.out.2.trans k2)
  clear k2 H1 bl ll
  go_wp2_with fail
  refine (cut_nil n w2).mono ?_
  rintro e w3 ⟨rfl, rfl⟩
  go_wp2_with fail
  refine (lines_nil w2).mono ?_
  rintro e w3 ⟨rfl, rfl⟩
  go_wp2_with fail
  exact bodyPost_ret (results_tmp rfl _ _ _) rfl ⟨rfl, H2.out⟩

theorem AuditNone_walk (v0 v1 : Value) (w : World) {b0 b1 : Nat} (hv0 : Value.okWide Try.prog w .any b0 32 v0) (h0 : Op Try.prog w 32 v0.cells.toList) (hv1 : Value.okWide Try.prog w .any b1 3 v1) (h1 : Op Try.prog w 3 v1.cells.toList) :
    Calls Try.prog 5 #[v0, v1] w fun e w' => e = .returned (.bool true) ∧ Below w.heap.size w w' := by
  obtain ⟨x, rfl, _⟩ := line_in hv0 h0
  obtain ⟨n, rfl⟩ := okWide_int Try.underlying3 hv1
  exact (none19_any x n w).mono fun e w' ⟨he, k⟩ => ⟨he, k.below0⟩

set_option maxRecDepth 100000 in
theorem AuditNone_lifted (os : Os) (started : os.Started) (H : Type) (enc : TypeId × Value → H) :
    ReturnsInHanded {} Try.checked os 5 .any (Rows.auditNoneSpec.pre6 enc Try.prog Try.f5 Rows.auditNoneRow.domain false) (Rows.auditNoneSpec.post enc Try.prog Try.f5 false true false false) := by
  refine returnsInHanded_of_change_sized (C := Try.checked) (by kernel_rfl) started (by kernel_rfl) Try.func5
    (ChangeSpec.witness6 (enc := enc) (C := Try.checked) false ⟨#[], #[.agg #[.int .i64 0, .int .i64 0, .int .i64 0, .string ⟨#[]⟩, .int .i64 0, .int .i64 0, .string ⟨#[]⟩, .string ⟨#[]⟩], .int .i64 0], []⟩ 8 (by kernel_rfl) (by kernel_rfl) (by kernel_rfl) (by kernel_rfl)) ?_
  intro W base args ds gs before hval0 hW hcnd hsz0 _
  have hval : ∀ (j : Nat) t v, Try.f5.params[j]? = some t → args[j]? = some v → Value.okWide Try.prog W .any base t v := hval0
  have hsz : (DataW.weightsEach Try.prog (Try.f5.params.toList ++ Rows.auditNoneSpec.plain.varTypes Try.prog) (ds ++ gs)).all (· ≤ reachBytes) = true := hsz0
  have hW' := hW
  obtain ⟨p, q, hA0, hV, rfl, hfz, hnd⟩ := hW
  have hA : DataW.TrodAll enc Try.prog W 0 (fun _ => true) true Try.f5.params.toList args.toList ds p := hA0
  rw [Try.params5] at hA hval hsz
  obtain ⟨v0, vs0, d0, ds0, p0, q0, hargs, rfl, rfl, h0, r0⟩ := trodAll_cons hA
  obtain ⟨v1, vs1, d1, ds1, p1, q1, rfl, rfl, rfl, h1, r1⟩ := trodAll_cons r0
  obtain ⟨rfl, rfl, rfl⟩ := trodAll_nil r1
  obtain rfl : args = #[v0, v1] := by cases args; simp_all
  obtain ⟨rfl, rfl⟩ := trodVars_none hV
  have lt0 : ∀ x ∈ p0, x.block < W.heap.size := by obtain ⟨m, hm⟩ := h0; exact DataW.trod_lt m _ _ _ hm
  have o0 := op_of hsz (j := 0) rfl rfl h0
  have lt1 : ∀ x ∈ p1, x.block < W.heap.size := by obtain ⟨m, hm⟩ := h1; exact DataW.trod_lt m _ _ _ hm
  have o1 := op_of hsz (j := 1) rfl rfl h1
  refine (AuditNone_walk v0 v1 W (hval 0 _ v0 rfl rfl) o0 (hval 1 _ v1 rfl rfl) o1).mono fun e W' ⟨he, bel⟩ => ?_
  subst he
  exact ⟨_, rfl, _, _, _, [], _, [], hW', trodAll_mk1 (shut_bool Try.underlying4 _), (trodAll_cons_mk (Below.trod (by kernel_rfl) (by kernel_rfl) (of_decide_eq_true (by kernel_rfl)) h0 bel lt0) (trodAll_cons_mk (Below.trod (by kernel_rfl) (by kernel_rfl) (of_decide_eq_true (by kernel_rfl)) h1 bel lt1) trodAll_mk0)), rfl, bel.frame _, fun h => by cases h⟩

/-- The statement. -/
theorem AuditNone_holds : Rows.AuditNoneSaid :=
  OpenClaim.holds_of_wide 5 Try.f5 rfl rfl rfl rfl rfl rfl rfl ⟨rfl, rfl, rfl, rfl, rfl⟩ rfl rfl rfl rfl rfl (by kernel_rfl) Try.func5 (by kernel_rfl)
    (of_decide_eq_true (by kernel_rfl)) (by unfold Func.isWrapper; rw [if_neg (of_decide_eq_false (by kernel_rfl))]; exact ⟨rfl, rfl⟩)
    (fun os started H enc _ => AuditNone_lifted os started H enc)
#print axioms AuditNone_holds
end Go.Proofs.Ytdiacfbflbenoaa
