/-
  TokenOnly: what is read was made just so, and read as nothing else. The row lists utf8's two tables as Go lays them. No condition beyond the row's.
-/
import Derived.Test.YtoabhjngcajmiaaDoorTokenLaw
namespace Go.Proofs.YtoabhjngcajmiaaDoor
open Go.RowKit Go.Lib Go.ChangeShapes Go.WideShapes Go.ChangeAt
set_option linter.unusedSimpArgs false
set_option linter.unusedVariables false

set_option maxHeartbeats 1000000 in
theorem only_any (a b : List UInt8) (w : World) (hs : a.length ≤ 140737488351232) (ht : b.length ≤ 140737488351232) (hT : Tabs w) :
    Calls Tryd.prog 5 #[Str a, Str b] w fun e w' => e = .returned (.bool true) ∧ Step [] [] w w' := by
  have HT := Lib.hid hT
  clear hT
  go_enter Tryd.func5, Tryd.ntmps5
  go_wp2_with fail
  refine (awake_true w HT.out).mono ?_
  rintro e w1 ⟨rfl, h1⟩
  have HT1 := Lib.hid (HT.out.step h1)
  have H1 := Lib.hid h1
  clear h1
  by_cases hl : a.length ≤ 2000
  · have hl' : ¬ (2000 : Int) < a.length := by omega
    by_cases hl2 : b.length ≤ 2000
    · have hl2' : ¬ (2000 : Int) < b.length := by omega
      have c1 := read2_any a b w1 (by omega) (by omega) HT1.out
      have hy := read_yes a b
      have hn := read_no a b
      have hul : (readL a b).1.1.length ≤ 2000 := by
        have := told_len b
        unfold readL
        split
        · simp
        · split
          · simp only; omega
          · simp
      generalize readL a b = q at *
      obtain ⟨⟨u, n⟩, ok⟩ := q
      simp only at c1 hy hn hul
      have C1 := Lib.hid c1
      clear c1
      go_wp2_with fail
      refine C1.out.mono ?_
      rintro e w2 ⟨rfl, h2⟩
      have HT2 := Lib.hid (HT1.out.step h2)
      have H2 := Lib.hid (H1.out.trans h2)
      clear h2
      cases ok with
      | false =>
        have h := hn rfl
        simp only [Prod.mk.injEq, and_true] at h
        obtain ⟨rfl, rfl⟩ := h
        clear hy hn
        go_wp2_with fail
        go_ret
        exact ⟨rfl, H2.out⟩
      | true =>
        obtain ⟨g1, g2⟩ := hy rfl
        obtain ⟨x, b', rfl⟩ : ∃ x b', b = x :: b' := by
          cases b with
          | nil => exact absurd rfl g1
          | cons x b' => exact ⟨x, b', rfl⟩
        have c2 := mint_any a u n w2 (by omega) (by omega) HT2.out
        rw [g2] at c2
        have C2 := Lib.hid c2
        clear hy hn g1 g2 c2
        go_wp2_with fail
        refine C2.out.mono ?_
        rintro e w3 ⟨rfl, h3⟩
        go_wp2_with fail
        go_ret
        exact ⟨by simp, H2.out.trans h3⟩
    · have hl2' : (2000 : Int) < b.length := by omega
      go_wp2_with fail
      go_ret
      exact ⟨rfl, H1.out⟩
  · have hl' : (2000 : Int) < a.length := by omega
    go_wp2_with fail
    go_ret
    exact ⟨rfl, H1.out⟩

theorem TokenOnly_walk (v0 v1 : Value) (w : World) {b0 b1 : Nat} (hv0 : Value.okWide Tryd.prog w .any b0 9 v0) (h0 : Op Tryd.prog w 9 v0.cells.toList) (hv1 : Value.okWide Tryd.prog w .any b1 9 v1) (h1 : Op Tryd.prog w 9 v1.cells.toList) (hT : Tabs w) :
    Calls Tryd.prog 5 #[v0, v1] w fun e w' => e = .returned (.bool true) ∧ Below w.heap.size w w' := by
  obtain ⟨s, rfl⟩ := okWide_string Tryd.underlying9 hv0
  obtain ⟨s1, rfl⟩ := okWide_string Tryd.underlying9 hv1
  obtain ⟨l, e, hl⟩ := h0.str Tryd.underlying9
  simp [Value.cells] at e
  subst e
  obtain ⟨l1, e, hl1⟩ := h1.str Tryd.underlying9
  simp [Value.cells] at e
  subst e
  exact (only_any l l1 w hl hl1 hT).mono fun e w' ⟨he, k⟩ => ⟨he, k.below0⟩

set_option maxRecDepth 100000 in
theorem TokenOnly_lifted (os : Os) (started : os.Started) (H : Type) (enc : TypeId × Value → H) :
    ReturnsInHanded {} Tryd.checked os 5 .any (fun w args => (Rows.tokenOnlySpec.pre enc Tryd.prog Tryd.f5 [] false w args ∧ laidMetH Tryd.prog tabsLaid w) ∧ sizedMet enc Tryd.prog Tryd.f5 (OpenSpec.ofChange Rows.tokenOnlySpec) false w args)
      (Rows.tokenOnlySpec.post enc Tryd.prog Tryd.f5 false true false false) := by
  refine returnsInHanded_of_change_and (C := Tryd.checked) (X := fun w _ => laidMetH Tryd.prog tabsLaid w) (fun _ _ _ hh h => h.of_heap hh) (by kernel_rfl) started (by kernel_rfl) Tryd.func5
    (ChangeSpec.witness_shaped (enc := enc) (C := Tryd.checked) (os := os) (X := fun w _ => laidMetH Tryd.prog tabsLaid w) false (World.laidAll Tryd.prog os tabsLaid) #[.string ⟨#[]⟩, .string ⟨#[]⟩] 8 (World.laidAll_os _ _ _)
      (World.shaped_of_ZipB (by kernel_rfl) (by kernel_rfl)) (by kernel_rfl) (by kernel_rfl) (by kernel_rfl)
      (by rw [MakeChecks.laidMetH_plain _ _ _ (by kernel_rfl)]; exact laidMet_laidAll _ (by kernel_rfl) (by kernel_rfl))) ?_
  intro W base args ds gs before hval0 hW _ hsz0 hL _
  have hval : ∀ (j : Nat) t v, Tryd.f5.params[j]? = some t → args[j]? = some v → Value.okWide Tryd.prog W .any base t v := hval0
  have hsz : (DataW.weightsEach Tryd.prog (Tryd.f5.params.toList ++ Rows.tokenOnlySpec.plain.varTypes Tryd.prog) (ds ++ gs)).all (· ≤ reachBytes) = true := hsz0
  have hW' := hW
  have hT := tabs_of_laid hL
  obtain ⟨p, q, hA0, hV, rfl, _, _⟩ := hW
  have hA : DataW.TrodAll enc Tryd.prog W 0 (fun _ => true) true Tryd.f5.params.toList args.toList ds p := hA0
  rw [Tryd.params5] at hA hval hsz
  obtain ⟨v0, vs0, d0, ds0, p0, q0, hargs, rfl, rfl, h0, r0⟩ := trodAll_cons hA
  obtain ⟨v1, vs1, d1, ds1, p1, q1, rfl, rfl, rfl, h1, r1⟩ := trodAll_cons r0
  obtain ⟨rfl, rfl, rfl⟩ := trodAll_nil r1
  obtain rfl : args = #[v0, v1] := by cases args; simp_all
  obtain ⟨rfl, rfl⟩ := trodVars_none hV
  have lt0 : ∀ x ∈ p0, x.block < W.heap.size := by obtain ⟨m, hm⟩ := h0; exact DataW.trod_lt m _ _ _ hm
  have o0 := op_of hsz (j := 0) rfl rfl h0
  have lt1 : ∀ x ∈ p1, x.block < W.heap.size := by obtain ⟨m, hm⟩ := h1; exact DataW.trod_lt m _ _ _ hm
  have o1 := op_of hsz (j := 1) rfl rfl h1
  refine (TokenOnly_walk v0 v1 W (hval 0 _ v0 rfl rfl) o0 (hval 1 _ v1 rfl rfl) o1 hT).mono fun e W' ⟨he, bel⟩ => ?_
  subst he
  exact ⟨_, rfl, _, _, _, [], _, [], hW', trodAll_mk1 (shut_bool Tryd.underlying4 _), (trodAll_cons_mk (Below.trod (by kernel_rfl) (by kernel_rfl) (of_decide_eq_true (by kernel_rfl)) h0 bel lt0) (trodAll_cons_mk (Below.trod (by kernel_rfl) (by kernel_rfl) (of_decide_eq_true (by kernel_rfl)) h1 bel lt1) trodAll_mk0)), rfl, bel.frame _, fun h => by cases h⟩

/-- The row's statement. -/
theorem TokenOnly_row : Rows.TokenOnlySaid :=
  OpenClaim.holds_of_wide 5 Tryd.f5 rfl rfl rfl rfl rfl rfl rfl ⟨rfl, rfl, rfl, rfl, rfl⟩ rfl rfl rfl rfl rfl (by kernel_rfl) Tryd.func5 (by kernel_rfl)
    (of_decide_eq_true (by kernel_rfl)) (by unfold Func.isWrapper; rw [if_neg (of_decide_eq_false (by kernel_rfl))]; exact ⟨rfl, rfl⟩)
    (fun os started H enc _ => TokenOnly_lifted os started H enc)
/-- The card. -/
theorem TokenOnly_holds : Rows.TokenOnlyCardSaid :=
  Claim7.holds_tied_plain_at .later [] [.data, .pinned] true Rows.tokenOnlyCard.stood.harness false
    TokenOnly_row (fun _ h => by cases h) (by kernel_rfl) (fun _ h => by cases h) tokenOnly_row_tie rfl ⟨rfl, rfl⟩ (by kernel_rfl) rfl
    (fun f fn hf hfn => by
      obtain rfl : f = 5 := Option.some.inj ((show Tryd.prog.funcNamed "exchequer/exchequerlaw17.TokenOnly" = some 5 by kernel_rfl).symm.trans hf) |>.symm
      obtain rfl : fn = Tryd.f5 := (Option.some.inj (Tryd.func5.symm.trans hfn)).symm
      exact ⟨by kernel_rfl, fun j t ht => by
        rw [Tryd.params5] at ht
        have hm : t ∈ [9, 9] := by simpa using Array.mem_of_getElem? ht
        have hall : ([9, 9].all fun u => !Tryd.prog.wantsStandIn u) = true := by kernel_rfl
        exact (show Tryd.prog.wantsStandIn t = false by simpa using List.all_eq_true.1 hall t hm)⟩)
    (by kernel_rfl)
#print axioms TokenOnly_holds
end Go.Proofs.YtoabhjngcajmiaaDoor
