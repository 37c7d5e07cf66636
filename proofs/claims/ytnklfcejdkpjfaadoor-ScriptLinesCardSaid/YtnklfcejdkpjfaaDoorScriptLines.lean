/-
  ScriptLines: any event has the line that the reference says, and comes back from it. The row lists tables of the library as Go lays them. No condition beyond the row's.
-/
import Derived.Test.YtnklfcejdkpjfaaDoorScrWake
namespace Go.Proofs.YtnklfcejdkpjfaaDoor
open Go.RowKit Go.ChangeShapes Go.WideShapes Go.ChangeAt
set_option linter.unusedSimpArgs false
set_option linter.unusedVariables false
set_option maxRecDepth 100000

set_option maxHeartbeats 4000000 in
theorem lines_any (x : Ev) (w : World) (hT : STabs w) : Calls Tryd.prog 3 #[evV x] w fun e w' => e = .returned (.bool true) ∧ Step [] [] w w' := by
  have HTT := Lib.hid hT
  clear hT
  have H00 : Hid (Blk (w.alloc (.cells (evc x).toArray 23)) w.heap.size 23 (evc x).toArray ∧ Step [] [] w (w.alloc (.cells (evc x).toArray 23))) := Lib.hid ⟨Blk.new w _ _, (Step.refl [] w).alloc _⟩
  go_enter Tryd.func3, Tryd.ntmps3
  go_upto_region 1 with fail
  change Code.wp _ _ _ _ (w.alloc (.cells (evc x).toArray 23))
  obtain ⟨b, hb⟩ : ∃ b, b = w.heap.size := ⟨_, rfl⟩
  obtain ⟨V, hV⟩ : ∃ V, V = (w.alloc (.cells (evc x).toArray 23)) := ⟨_, rfl⟩
  rw [← hV, ← hb] at H00
  have H0 := H00
  rw [← hV]
  try rw [← hb]
  clear hV hb H00
  go_wp2_with fail
  refine (awake25_true V (HTT.out.step H0.out.2)).mono ?_
  rintro e w1 ⟨rfl, k1⟩
  have H1 : Hid (Blk w1 b 23 (evc x).toArray ∧ Step [] [] w w1) := Lib.hid ⟨H0.out.1.step k1 (by simp), H0.out.2.trans k1⟩
  clear k1 H0
  go_wp2_with (refine wpList_loadRow (T := 23) (b := b) (T' := 23) (cs := (evc x).toArray) rfl (.tmp 1) rfl rfl Tryd.sEv H1.out.1 ?_)
  refine (line_any x w1 (HTT.out.step H1.out.2)).mono ?_
  rintro e w2 ⟨rfl, k2⟩
  have H2 : Hid (Blk w2 b 23 (evc x).toArray ∧ Step [] [] w w2) := Lib.hid ⟨H1.out.1.step k2 (by simp), H1.out.2.trans k2⟩
  clear k2 H1
  go_wp2_with (refine wpList_loadRow (T := 23) (b := b) (T' := 23) (cs := (evc x).toArray) rfl (.tmp 1) rfl rfl Tryd.sEv H2.out.1 ?_)
  refine (refLine_any x w2).mono ?_
  rintro e w3 ⟨rfl, k3⟩
  have H3 : Hid (Blk w3 b 23 (evc x).toArray ∧ Step [] [] w w3) := Lib.hid ⟨H2.out.1.step k3 (by simp), H2.out.2.trans k3⟩
  clear k3 H2
  cases hr : rightE x with
  | false =>
    rw [lineC_no (show ¬ rightE x = true by rw [hr]; simp)]
    clear hr
    go_wp2_with fail
    refine (parse_any [] w3 (HTT.out.step H3.out.2) (by decide)).mono ?_
    rintro e w4 ⟨rfl, k4⟩
    have H4 := Lib.hid (H3.out.2.trans k4)
    clear k4 H3
    rw [show parseC [] = (evZ, false) by rw [parseC, parse_nil]]
    simp only [evZ]
    go_wp2_with fail
    exact bodyPost_ret (results_tmp rfl _ _ _) rfl ⟨rfl, (H4.out.alloc _)⟩
  | true =>
    rw [lineC_yes hr]
    have HPL : Hid (parseC (lineE x) = (x, true)) := Lib.hid (by rw [parseC, parse_line hr])
    have HLL := Lib.hid (line_len hr)
    clear hr
    obtain ⟨ln, hln⟩ : ∃ l, l = lineE x := ⟨_, rfl⟩
    rw [← hln] at HPL HLL ⊢
    clear hln
    go_wp2_with fail
    refine (parse_any ln w3 (HTT.out.step H3.out.2) (by have := HLL.out; omega)).mono ?_
    rintro e w4 ⟨rfl, k4⟩
    have H4 : Hid (Blk w4 b 23 (evc x).toArray ∧ Step [] [] w w4) := Lib.hid ⟨H3.out.1.step k4 (by simp), H3.out.2.trans k4⟩
    clear k4 H3
    rw [HPL.out]
    have fc := H4.out.1.cell
    have f0 := fc 0
    have f1 := fc 1
    have f2 := fc 2
    have f3 := fc 3
    have f4 := fc 4
    clear fc
    simp only [evc, List.getElem?_toArray, List.getElem?_cons_zero, List.getElem?_cons_succ] at f0 f1 f2 f3 f4
    have fl := H4.out.1.lt
    have heq := ev_eql x
    go_wp2_with fail
    exact bodyPost_ret (results_tmp rfl _ _ _) rfl ⟨rfl, (H4.out.2.alloc _)⟩
theorem ScriptLines_walk (v0 : Value) (w : World) {b0 : Nat} (h0 : Value.okWide Tryd.prog w .any b0 23 v0) (o0 : Op Tryd.prog w 23 v0.cells.toList) (hT : STabs w) :
    Calls Tryd.prog 3 #[v0] w fun e w' => e = .returned (.bool true) ∧ Below w.heap.size w w' := by
  obtain ⟨x, rfl⟩ := ev_in h0 o0
  exact (lines_any x w hT).mono fun e w' ⟨h1, h2⟩ => ⟨h1, h2.below0⟩

set_option maxRecDepth 100000 in
theorem ScriptLines_lifted (os : Os) (started : os.Started) (H : Type) (enc : TypeId × Value → H) :
    ReturnsInHanded {} Tryd.checked os 3 .any (fun w args => (Rows.scriptLinesSpec.pre enc Tryd.prog Tryd.f3 [] false w args ∧ laidMetH Tryd.prog scrLaid w) ∧ sizedMet enc Tryd.prog Tryd.f3 (OpenSpec.ofChange Rows.scriptLinesSpec) false w args)
      (Rows.scriptLinesSpec.post enc Tryd.prog Tryd.f3 false true false false) := by
  refine returnsInHanded_of_change_tabs (C := Tryd.checked) (X := fun w _ => laidMetH Tryd.prog scrLaid w) (fun _ _ _ hh h => h.of_heap hh) (by kernel_rfl) started (by kernel_rfl) Tryd.func3
    (ChangeSpec.witness_shaped (enc := enc) (C := Tryd.checked) (os := os) (X := fun w _ => laidMetH Tryd.prog scrLaid w) false (World.laidAll Tryd.prog os scrLaid) #[.agg #[.int .i64 0, .int .i64 0, .int .i64 0, .int .i64 0, .int .i64 0]] 8 (World.laidAll_os _ _ _)
      (World.shaped_of_ZipB (by kernel_rfl) (by kernel_rfl)) (by kernel_rfl) (by kernel_rfl) (by kernel_rfl)
      (by rw [MakeChecks.laidMetH_plain _ _ _ (by kernel_rfl)]; exact laidMet_laidAll _ (by kernel_rfl) (by kernel_rfl))) ?_
  intro W base args ds gs before hval0 hW _ hsz0 hL hS _
  have hval : ∀ (j : Nat) t v, Tryd.f3.params[j]? = some t → args[j]? = some v → Value.okWide Tryd.prog W .any base t v := hval0
  have hsz : (DataW.weightsEach Tryd.prog (Tryd.f3.params.toList ++ Rows.scriptLinesSpec.plain.varTypes Tryd.prog) (ds ++ gs)).all (· ≤ reachBytes) = true := hsz0
  have hW' := hW
  have hT := stabs_of hL hS
  obtain ⟨p, q, hA0, hV, rfl, _, _⟩ := hW
  have hA : DataW.TrodAll enc Tryd.prog W 0 (fun _ => true) true Tryd.f3.params.toList args.toList ds p := hA0
  rw [Tryd.params3] at hA hval hsz
  obtain ⟨v0, vs0, d0, ds0, p0, q0, hargs, rfl, rfl, h0, r0⟩ := trodAll_cons hA
  obtain ⟨rfl, rfl, rfl⟩ := trodAll_nil r0
  obtain rfl : args = #[v0] := by cases args; simp_all
  obtain ⟨rfl, rfl⟩ := trodVars_none hV
  have lt0 : ∀ x ∈ p0, x.block < W.heap.size := by obtain ⟨m, hm⟩ := h0; exact DataW.trod_lt m _ _ _ hm
  have o0 := op_of hsz (j := 0) rfl rfl h0
  refine (ScriptLines_walk v0 W (hval 0 _ v0 rfl rfl) o0 hT).mono fun e W' ⟨he, bel⟩ => ?_
  subst he
  exact ⟨_, rfl, _, _, _, [], _, [], hW', trodAll_mk1 (shut_bool Tryd.underlying4 _), (trodAll_cons_mk (Below.trod (by kernel_rfl) (by kernel_rfl) (of_decide_eq_true (by kernel_rfl)) h0 bel lt0) trodAll_mk0), rfl, bel.frame _, fun h => by cases h⟩

/-- The row's statement. -/
theorem ScriptLines_row : Rows.ScriptLinesSaid :=
  OpenClaim.holds_of_wide 3 Tryd.f3 rfl rfl rfl rfl rfl rfl rfl ⟨rfl, rfl, rfl, rfl, rfl⟩ rfl rfl rfl rfl rfl (by kernel_rfl) Tryd.func3 (by kernel_rfl)
    (of_decide_eq_true (by kernel_rfl)) (by unfold Func.isWrapper; rw [if_neg (of_decide_eq_false (by kernel_rfl))]; exact ⟨rfl, rfl⟩)
    (fun os started H enc _ => ScriptLines_lifted os started H enc)
/-- The card. -/
theorem ScriptLines_holds : Rows.ScriptLinesCardSaid :=
  Claim7.holds_tied_plain_at .later [] [.data, .data, .data, .data, .pinned] true Rows.scriptLinesCard.stood.harness false
    ScriptLines_row (fun _ h => by cases h) (by kernel_rfl) (fun _ h => by cases h) scriptLines_row_tie rfl ⟨rfl, rfl⟩ (by kernel_rfl) rfl
    (fun f fn hf hfn => by
      obtain rfl : f = 3 := Option.some.inj ((show Tryd.prog.funcNamed "exchequer/exchequerlaw25.ScriptLines" = some 3 by kernel_rfl).symm.trans hf) |>.symm
      obtain rfl : fn = Tryd.f3 := (Option.some.inj (Tryd.func3.symm.trans hfn)).symm
      exact ⟨by kernel_rfl, fun j t ht => by
        rw [Tryd.params3] at ht
        have hm : t ∈ [23] := by simpa using Array.mem_of_getElem? ht
        have hall : ([23].all fun u => !Tryd.prog.wantsStandIn u) = true := by kernel_rfl
        exact (show Tryd.prog.wantsStandIn t = false by simpa using List.all_eq_true.1 hall t hm)⟩)
    (by kernel_rfl)
#print axioms ScriptLines_holds
end Go.Proofs.YtnklfcejdkpjfaaDoor
