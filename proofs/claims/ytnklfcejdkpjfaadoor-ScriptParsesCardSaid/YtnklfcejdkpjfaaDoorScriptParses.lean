/-
  ScriptParses: any text is an event's line just if that event's line it is. The row lists tables of the library as Go lays them. No condition beyond the row's.
-/
import Derived.Test.YtnklfcejdkpjfaaDoorScrLike
namespace Go.Proofs.YtnklfcejdkpjfaaDoor
open Go.RowKit Go.ChangeShapes Go.WideShapes Go.ChangeAt
set_option linter.unusedSimpArgs false
set_option linter.unusedVariables false
set_option maxRecDepth 100000

set_option maxHeartbeats 4000000 in
theorem parses_any (s : List UInt8) (w : World) (hT : STabs w) : Calls Tryd.prog 4 #[Str s] w fun e w' => e = .returned (.bool true) ∧ Step [] [] w w' := by
  have HTT := Lib.hid hT
  clear hT
  go_enter Tryd.func4, Tryd.ntmps4
  go_wp2_with fail
  refine (awake25_true w HTT.out).mono ?_
  rintro e w1 ⟨rfl, k1⟩
  have H1 := Lib.hid k1
  clear k1
  by_cases hl : 1000 < s.length
  · have hld : decide (1000 < s.length) = true := decide_eq_true hl
    have hli : decide ((1000 : Int) < (s.length : Int)) = true := decide_eq_true (by omega)
    clear hl
    go_wp2_with fail
    exact bodyPost_ret (results_tmp rfl _ _ _) rfl ⟨rfl, H1.out⟩
  · have hld : decide (1000 < s.length) = false := decide_eq_false hl
    have hli : decide ((1000 : Int) < (s.length : Int)) = false := decide_eq_false (by omega)
    have HL := Lib.hid (show s.length ≤ 1000 by omega)
    clear hl
    go_wp2_with fail
    refine (parse_any s w1 (HTT.out.step H1.out) (by have := HL.out; omega)).mono ?_
    rintro e w2 ⟨rfl, k2⟩
    have H2 := Lib.hid (H1.out.trans k2)
    clear k2 H1 hld hli
    cases hp : parseE s with
    | none =>
      have HPN := Lib.hid (parse_none hp)
      rw [show parseC s = (evZ, false) by rw [parseC, hp]]
      clear hp
      go_upto_region 6 with fail
      obtain ⟨b, hb⟩ : ∃ b, b = w2.heap.size := ⟨_, rfl⟩
      obtain ⟨V, hV⟩ : ∃ V, V = w2.alloc (.cells (evc evZ).toArray 23) := ⟨_, rfl⟩
      have kk : Step [] [] w2 V := by rw [hV]; exact (Step.refl [] w2).alloc _
      have H3 : Hid (Blk V b 23 (evc evZ).toArray ∧ Step [] [] w V) := Lib.hid ⟨by rw [hV, hb]; exact Blk.new w2 _ _, H2.out.trans kk⟩
      change Code.wp _ _ _ _ (w2.alloc (.cells (evc evZ).toArray 23))
      rw [← hV]
      try rw [← hb]
      clear hV hb kk H2
      have fc := H3.out.1.cell
      have f0 := fc 0
      have f1 := fc 1
      have f2 := fc 2
      have f3 := fc 3
      have f4 := fc 4
      clear fc
      simp only [evc, evZ, List.getElem?_toArray, List.getElem?_cons_zero, List.getElem?_cons_succ] at f0 f1 f2 f3 f4
      have fl := H3.out.1.lt
      go_wp2_with fail
      refine (likely_any s V HL.out).mono ?_
      rintro e w3 ⟨g, rfl, hg, k3⟩
      have H4 := Lib.hid (H3.out.2.trans k3)
      cases g with
      | true => exact absurd (hg rfl) HPN.out
      | false =>
        clear hg k3 H3
        go_wp2_with fail
        exact bodyPost_ret (results_tmp rfl _ _ _) rfl ⟨rfl, H4.out⟩
    | some x =>
      obtain ⟨hr, hls⟩ := parse_some hp
      have HPS := Lib.hid (And.intro hr hls)
      rw [show parseC s = (x, true) by rw [parseC, hp]]
      clear hp hr hls
      go_upto_region 6 with fail
      obtain ⟨b, hb⟩ : ∃ b, b = w2.heap.size := ⟨_, rfl⟩
      obtain ⟨V, hV⟩ : ∃ V, V = w2.alloc (.cells (evc x).toArray 23) := ⟨_, rfl⟩
      have kk : Step [] [] w2 V := by rw [hV]; exact (Step.refl [] w2).alloc _
      have H3 : Hid (Blk V b 23 (evc x).toArray ∧ Step [] [] w V) := Lib.hid ⟨by rw [hV, hb]; exact Blk.new w2 _ _, H2.out.trans kk⟩
      change Code.wp _ _ _ _ (w2.alloc (.cells (evc x).toArray 23))
      rw [← hV]
      try rw [← hb]
      clear hV hb kk H2
      have fc := H3.out.1.cell
      have f0 := fc 0
      have f1 := fc 1
      have f2 := fc 2
      have f3 := fc 3
      have f4 := fc 4
      clear fc
      simp only [evc, List.getElem?_toArray, List.getElem?_cons_zero, List.getElem?_cons_succ] at f0 f1 f2 f3 f4
      have fl := H3.out.1.lt
      go_wp2_with fail
      refine (refLine_any x V).mono ?_
      rintro e w3 ⟨rfl, k3⟩
      have H4 := Lib.hid (H3.out.2.trans k3)
      clear k3 H3 f0 f1 f2 f3 f4 fl
      rw [lineC_yes HPS.out.1]
      simp only [HPS.out.2]
      go_wp2_with fail
      exact bodyPost_ret (results_tmp rfl _ _ _) rfl ⟨rfl, H4.out⟩
theorem ScriptParses_walk (v0 : Value) (w : World) {b0 : Nat} (h0 : Value.okWide Tryd.prog w .any b0 9 v0) (o0 : Op Tryd.prog w 9 v0.cells.toList) (hT : STabs w) :
    Calls Tryd.prog 4 #[v0] w fun e w' => e = .returned (.bool true) ∧ Below w.heap.size w w' := by
  obtain ⟨s, rfl⟩ := strs_in h0 o0
  exact (parses_any s w hT).mono fun e w' ⟨h1, h2⟩ => ⟨h1, h2.below0⟩

set_option maxRecDepth 100000 in
theorem ScriptParses_lifted (os : Os) (started : os.Started) (H : Type) (enc : TypeId × Value → H) :
    ReturnsInHanded {} Tryd.checked os 4 .any (fun w args => (Rows.scriptParsesSpec.pre enc Tryd.prog Tryd.f4 [] false w args ∧ laidMetH Tryd.prog scrLaid w) ∧ sizedMet enc Tryd.prog Tryd.f4 (OpenSpec.ofChange Rows.scriptParsesSpec) false w args)
      (Rows.scriptParsesSpec.post enc Tryd.prog Tryd.f4 false true false false) := by
  refine returnsInHanded_of_change_tabs (C := Tryd.checked) (X := fun w _ => laidMetH Tryd.prog scrLaid w) (fun _ _ _ hh h => h.of_heap hh) (by kernel_rfl) started (by kernel_rfl) Tryd.func4
    (ChangeSpec.witness_shaped (enc := enc) (C := Tryd.checked) (os := os) (X := fun w _ => laidMetH Tryd.prog scrLaid w) false (World.laidAll Tryd.prog os scrLaid) #[.string ⟨#[]⟩] 8 (World.laidAll_os _ _ _)
      (World.shaped_of_ZipB (by kernel_rfl) (by kernel_rfl)) (by kernel_rfl) (by kernel_rfl) (by kernel_rfl)
      (by rw [MakeChecks.laidMetH_plain _ _ _ (by kernel_rfl)]; exact laidMet_laidAll _ (by kernel_rfl) (by kernel_rfl))) ?_
  intro W base args ds gs before hval0 hW _ hsz0 hL hS _
  have hval : ∀ (j : Nat) t v, Tryd.f4.params[j]? = some t → args[j]? = some v → Value.okWide Tryd.prog W .any base t v := hval0
  have hsz : (DataW.weightsEach Tryd.prog (Tryd.f4.params.toList ++ Rows.scriptParsesSpec.plain.varTypes Tryd.prog) (ds ++ gs)).all (· ≤ reachBytes) = true := hsz0
  have hW' := hW
  have hT := stabs_of hL hS
  obtain ⟨p, q, hA0, hV, rfl, _, _⟩ := hW
  have hA : DataW.TrodAll enc Tryd.prog W 0 (fun _ => true) true Tryd.f4.params.toList args.toList ds p := hA0
  rw [Tryd.params4] at hA hval hsz
  obtain ⟨v0, vs0, d0, ds0, p0, q0, hargs, rfl, rfl, h0, r0⟩ := trodAll_cons hA
  obtain ⟨rfl, rfl, rfl⟩ := trodAll_nil r0
  obtain rfl : args = #[v0] := by cases args; simp_all
  obtain ⟨rfl, rfl⟩ := trodVars_none hV
  have lt0 : ∀ x ∈ p0, x.block < W.heap.size := by obtain ⟨m, hm⟩ := h0; exact DataW.trod_lt m _ _ _ hm
  have o0 := op_of hsz (j := 0) rfl rfl h0
  refine (ScriptParses_walk v0 W (hval 0 _ v0 rfl rfl) o0 hT).mono fun e W' ⟨he, bel⟩ => ?_
  subst he
  exact ⟨_, rfl, _, _, _, [], _, [], hW', trodAll_mk1 (shut_bool Tryd.underlying4 _), (trodAll_cons_mk (Below.trod (by kernel_rfl) (by kernel_rfl) (of_decide_eq_true (by kernel_rfl)) h0 bel lt0) trodAll_mk0), rfl, bel.frame _, fun h => by cases h⟩

/-- The row's statement. -/
theorem ScriptParses_row : Rows.ScriptParsesSaid :=
  OpenClaim.holds_of_wide 4 Tryd.f4 rfl rfl rfl rfl rfl rfl rfl ⟨rfl, rfl, rfl, rfl, rfl⟩ rfl rfl rfl rfl rfl (by kernel_rfl) Tryd.func4 (by kernel_rfl)
    (of_decide_eq_true (by kernel_rfl)) (by unfold Func.isWrapper; rw [if_neg (of_decide_eq_false (by kernel_rfl))]; exact ⟨rfl, rfl⟩)
    (fun os started H enc _ => ScriptParses_lifted os started H enc)
/-- The card. -/
theorem ScriptParses_holds : Rows.ScriptParsesCardSaid :=
  Claim7.holds_tied_plain_at .later [] [.data, .data, .data, .data, .pinned] true Rows.scriptParsesCard.stood.harness false
    ScriptParses_row (fun _ h => by cases h) (by kernel_rfl) (fun _ h => by cases h) scriptParses_row_tie rfl ⟨rfl, rfl⟩ (by kernel_rfl) rfl
    (fun f fn hf hfn => by
      obtain rfl : f = 4 := Option.some.inj ((show Tryd.prog.funcNamed "exchequer/exchequerlaw25.ScriptParses" = some 4 by kernel_rfl).symm.trans hf) |>.symm
      obtain rfl : fn = Tryd.f4 := (Option.some.inj (Tryd.func4.symm.trans hfn)).symm
      exact ⟨by kernel_rfl, fun j t ht => by
        rw [Tryd.params4] at ht
        have hm : t ∈ [9] := by simpa using Array.mem_of_getElem? ht
        have hall : ([9].all fun u => !Tryd.prog.wantsStandIn u) = true := by kernel_rfl
        exact (show Tryd.prog.wantsStandIn t = false by simpa using List.all_eq_true.1 hall t hm)⟩)
    (by kernel_rfl)
#print axioms ScriptParses_holds
end Go.Proofs.YtnklfcejdkpjfaaDoor
