/-
  NameBacks: any text is a text for eyes just if some text has it, and that one is told. The row lists utf8's two tables as Go lays them. No condition beyond the row's.
-/
import Derived.Test.YtbdknljpbgocmaaDoorNameLaw
namespace Go.Proofs.YtbdknljpbgocmaaDoor
open Go.RowKit Go.Lib Go.ChangeShapes Go.WideShapes Go.ChangeAt
set_option linter.unusedSimpArgs false
set_option linter.unusedVariables false

theorem plain_ge (s : List UInt8) : s.length ≤ (plainL s).length := by
  refine pieces_ind (M := fun s => s.length ≤ (plainL s).length) (by simp) (fun r hr hk ih => ?_) (fun r hr hk ih => ?_) s
  · have hl := sz_le r
    simp only [List.length_drop] at ih
    cases hi : itselfB (r.take (sizeOf8 r)) with
    | true => rw [plainL_self r hr hk hi, List.length_append, take_len8]; omega
    | false => rw [plainL_esc r hr hk hi, List.length_append, escL_len, take_len8]; omega
  · rw [plainL_bad r hr hk, List.length_append, escL_len]
    simp only [List.length_drop, List.length_take] at ih ⊢
    omega

set_option maxHeartbeats 1000000 in
theorem backs_any (s : List UInt8) (w : World) (hs : s.length ≤ 140737488351232) (hT : Tabs w) :
    Calls Tryd.prog 8 #[Str s] w fun e w' => e = .returned (.bool true) ∧ Step [] [] w w' := by
  have HT := Lib.hid hT
  clear hT
  go_enter Tryd.func8, Tryd.ntmps8
  go_wp2_with fail
  refine (awake_true w HT.out).mono ?_
  rintro e w1 ⟨rfl, h1⟩
  have HT1 := Lib.hid (HT.out.step h1)
  by_cases hl : s.length ≤ 10000
  · have hl' : ¬ (10000 : Int) < s.length := by omega
    have hpl := plainL_len s
    go_wp2_with fail
    refine (plain_any s w1 (by omega) HT1.out).mono ?_
    rintro e w2 ⟨rfl, h2⟩
    have HT2 := Lib.hid (HT1.out.step h2)
    have HB := Lib.hid (backAns_plain s)
    go_wp2_with fail
    refine (back_any (plainL s) w2 (by omega) HT2.out).mono ?_
    rintro e w3 ⟨rfl, h3⟩
    rw [HB.out]
    have HT3 := Lib.hid (HT2.out.step h3)
    go_wp2_with fail
    refine (back_any s w3 (by omega) HT3.out).mono ?_
    rintro e w4 ⟨rfl, h4⟩
    have hn := backAns_no s
    have hy := backAns_yes s
    generalize backAns s = q at *
    obtain ⟨u, is⟩ := q
    cases is with
    | false =>
      have hu := hn rfl
      simp only at hu
      subst hu
      clear hn hy
      go_wp2_with fail
      go_ret
      exact ⟨rfl, ((h1.trans h2).trans h3).trans h4⟩
    | true =>
      have hu := hy rfl
      simp only at hu
      have hul := plain_ge u
      rw [hu] at hul
      have HU := Lib.hid hu
      clear hn hy hu
      go_wp2_with fail
      refine (refPlain_any u w4 (by omega)).mono ?_
      rintro e w5 ⟨rfl, h5⟩
      rw [HU.out]
      go_wp2_with fail
      go_ret
      exact ⟨by simp, (((h1.trans h2).trans h3).trans h4).trans h5⟩
  · have hl' : (10000 : Int) < s.length := by omega
    go_wp2_with fail
    go_ret
    exact ⟨rfl, h1⟩

theorem NameBacks_walk (v0 : Value) (w : World) {b0 : Nat} (hv0 : Value.okWide Tryd.prog w .any b0 9 v0) (h0 : Op Tryd.prog w 9 v0.cells.toList) (hT : Tabs w) :
    Calls Tryd.prog 8 #[v0] w fun e w' => e = .returned (.bool true) ∧ Below w.heap.size w w' := by
  obtain ⟨s, rfl⟩ := okWide_string Tryd.underlying9 hv0
  obtain ⟨l, e, hl⟩ := h0.str Tryd.underlying9
  simp [Value.cells] at e
  subst e
  exact (backs_any l w hl hT).mono fun e w' ⟨he, k⟩ => ⟨he, k.below0⟩

set_option maxRecDepth 100000 in
theorem NameBacks_lifted (os : Os) (started : os.Started) (H : Type) (enc : TypeId × Value → H) :
    ReturnsInHanded {} Tryd.checked os 8 .any (fun w args => (Rows.nameBacksSpec.pre enc Tryd.prog Tryd.f8 [] false w args ∧ laidMetH Tryd.prog tabsLaid w) ∧ sizedMet enc Tryd.prog Tryd.f8 (OpenSpec.ofChange Rows.nameBacksSpec) false w args)
      (Rows.nameBacksSpec.post enc Tryd.prog Tryd.f8 false true false false) := by
  refine returnsInHanded_of_change_and (C := Tryd.checked) (X := fun w _ => laidMetH Tryd.prog tabsLaid w) (fun _ _ _ hh h => h.of_heap hh) (by kernel_rfl) started (by kernel_rfl) Tryd.func8
    (ChangeSpec.witness_shaped (enc := enc) (C := Tryd.checked) (os := os) (X := fun w _ => laidMetH Tryd.prog tabsLaid w) false (World.laidAll Tryd.prog os tabsLaid) #[.string ⟨#[]⟩] 8 (World.laidAll_os _ _ _)
      (World.shaped_of_ZipB (by kernel_rfl) (by kernel_rfl)) (by kernel_rfl) (by kernel_rfl) (by kernel_rfl)
      (by rw [MakeChecks.laidMetH_plain _ _ _ (by kernel_rfl)]; exact laidMet_laidAll _ (by kernel_rfl) (by kernel_rfl))) ?_
  intro W base args ds gs before hval0 hW _ hsz0 hL _
  have hval : ∀ (j : Nat) t v, Tryd.f8.params[j]? = some t → args[j]? = some v → Value.okWide Tryd.prog W .any base t v := hval0
  have hsz : (DataW.weightsEach Tryd.prog (Tryd.f8.params.toList ++ Rows.nameBacksSpec.plain.varTypes Tryd.prog) (ds ++ gs)).all (· ≤ reachBytes) = true := hsz0
  have hW' := hW
  have hT := tabs_of_laid hL
  obtain ⟨p, q, hA0, hV, rfl, _, _⟩ := hW
  have hA : DataW.TrodAll enc Tryd.prog W 0 (fun _ => true) true Tryd.f8.params.toList args.toList ds p := hA0
  rw [Tryd.params8] at hA hval hsz
  obtain ⟨v0, vs0, d0, ds0, p0, q0, hargs, rfl, rfl, h0, r0⟩ := trodAll_cons hA
  obtain ⟨rfl, rfl, rfl⟩ := trodAll_nil r0
  obtain rfl : args = #[v0] := by cases args; simp_all
  obtain ⟨rfl, rfl⟩ := trodVars_none hV
  have lt0 : ∀ x ∈ p0, x.block < W.heap.size := by obtain ⟨m, hm⟩ := h0; exact DataW.trod_lt m _ _ _ hm
  have o0 := op_of hsz (j := 0) rfl rfl h0
  refine (NameBacks_walk v0 W (hval 0 _ v0 rfl rfl) o0 hT).mono fun e W' ⟨he, bel⟩ => ?_
  subst he
  exact ⟨_, rfl, _, _, _, [], _, [], hW', trodAll_mk1 (shut_bool Tryd.underlying4 _), (trodAll_cons_mk (Below.trod (by kernel_rfl) (by kernel_rfl) (of_decide_eq_true (by kernel_rfl)) h0 bel lt0) trodAll_mk0), rfl, bel.frame _, fun h => by cases h⟩

/-- The row's statement. -/
theorem NameBacks_row : Rows.NameBacksSaid :=
  OpenClaim.holds_of_wide 8 Tryd.f8 rfl rfl rfl rfl rfl rfl rfl ⟨rfl, rfl, rfl, rfl, rfl⟩ rfl rfl rfl rfl rfl (by kernel_rfl) Tryd.func8 (by kernel_rfl)
    (of_decide_eq_true (by kernel_rfl)) (by unfold Func.isWrapper; rw [if_neg (of_decide_eq_false (by kernel_rfl))]; exact ⟨rfl, rfl⟩)
    (fun os started H enc _ => NameBacks_lifted os started H enc)
/-- The card. -/
theorem NameBacks_holds : Rows.NameBacksCardSaid :=
  Claim7.holds_tied_plain_at .later [] [.data, .pinned] true Rows.nameBacksCard.stood.harness false
    NameBacks_row (fun _ h => by cases h) (by kernel_rfl) (fun _ h => by cases h) nameBacks_row_tie rfl ⟨rfl, rfl⟩ (by kernel_rfl) rfl
    (fun f fn hf hfn => by
      obtain rfl : f = 8 := Option.some.inj ((show Tryd.prog.funcNamed "exchequer/exchequerlaw04.NameBacks" = some 8 by kernel_rfl).symm.trans hf) |>.symm
      obtain rfl : fn = Tryd.f8 := (Option.some.inj (Tryd.func8.symm.trans hfn)).symm
      exact ⟨by kernel_rfl, fun j t ht => by
        rw [Tryd.params8] at ht
        have hm : t ∈ [9] := by simpa using Array.mem_of_getElem? ht
        have hall : ([9].all fun u => !Tryd.prog.wantsStandIn u) = true := by kernel_rfl
        exact (show Tryd.prog.wantsStandIn t = false by simpa using List.all_eq_true.1 hall t hm)⟩)
    (by kernel_rfl)
#print axioms NameBacks_holds
end Go.Proofs.YtbdknljpbgocmaaDoor
