/-
  NameEyes: a text for eyes is UTF-8 without a control byte, unlike texts have unlike ones, and a name is its own. The row lists utf8's two tables as Go lays them. No condition beyond the row's.
-/
import Derived.Test.YtbdknljpbgocmaaDoorNameLaw
namespace Go.Proofs.YtbdknljpbgocmaaDoor
open Go.RowKit Go.Lib Go.ChangeShapes Go.WideShapes Go.ChangeAt
set_option linter.unusedSimpArgs false
set_option linter.unusedVariables false

set_option maxHeartbeats 1000000 in
theorem eyes_any (s t : List UInt8) (w : World) (hs : s.length ≤ 140737488351232) (ht : t.length ≤ 140737488351232) (hT : Tabs w) :
    Calls Tryd.prog 6 #[Str s, Str t] w fun e w' => e = .returned (.bool true) ∧ Step [] [] w w' := by
  have HT := Lib.hid hT
  clear hT
  go_enter Tryd.func6, Tryd.ntmps6
  go_wp2_with fail
  refine (awake_true w HT.out).mono ?_
  rintro e w1 ⟨rfl, h1⟩
  have HT1 := Lib.hid (HT.out.step h1)
  by_cases hl : s.length ≤ 10000
  · have hl' : ¬ (10000 : Int) < s.length := by omega
    by_cases hl2 : t.length ≤ 10000
    · have hl2' : ¬ (10000 : Int) < t.length := by omega
      have hpl := plainL_len s
      go_wp2_with fail
      refine (plain_any s w1 (by omega) HT1.out).mono ?_
      rintro e w2 ⟨rfl, h2⟩
      have HT2 := Lib.hid (HT1.out.step h2)
      have hpb := plain_bytes s
      have hpo := (countR_ge _).2 (plain_ok s)
      have hpi := plain_inj s t
      have hpr := right_plain s
      have hpe : s = t → plainL s = plainL t := by intro h; rw [h]
      generalize hp : plainL s = p at *
      have HF := Lib.hid (And.intro hpb (And.intro hpi (And.intro hpr hpe)))
      have hpo' : 0 ≤ countR 0 p := hpo
      have H12 := Lib.hid (h1.trans h2)
      clear hpb hpo hpi hpr hpe hp h1 h2
      go_wp2_with fail
      go_loopw [6] (fun i wr => ∃ k : Nat, k ≤ p.length ∧ i = .int .i64 k ∧ Hid (wr = w2))
        (fun i _ => p.length - (RowKit.intOf i).toNat)
      case atStart => exact ⟨0, by omega, rfl, rfl⟩
      case round =>
        obtain ⟨k, hk, rfl, HW⟩ := hrel
        by_cases hlt : k < p.length
        · have hlt' : (k : Int) < p.length := by omega
          have hb := HF.out.1 p[k] (List.getElem_mem hlt)
          have hb1 : ¬ ((p[k]).toNat : Int) < 32 := by omega
          have hb2 : (((p[k]).toNat : Int) == 127) = false := by simp; omega
          clear hb
          go_wp2_with fail
          go_roundw
          case rel => exact ⟨k + 1, by omega, by go_num, HW.out⟩
          case measure => simp [RowKit.intOf]; omega
        · obtain rfl : k = p.length := by omega
          have HS : Hid (Step [] [] w wr ∧ Tabs wr) := by rw [HW.out]; exact ⟨H12.out, HT2.out⟩
          clear HW
          go_wp2_with fail
          refine (count_any p wr (by omega) HS.out.2).mono ?_
          rintro e w3 ⟨rfl, h3⟩
          have HT3 := Lib.hid (HS.out.2.step h3)
          have H13 := Lib.hid (HS.out.1.trans h3)
          clear h3
          go_wp2_with fail
          refine (plain_any t w3 (by omega) HT3.out).mono ?_
          rintro e w4 ⟨rfl, h4⟩
          have HT4 := Lib.hid (HT3.out.step h4)
          have H14 := Lib.hid (H13.out.trans h4)
          clear h4
          have hq1 := HF.out.2.1
          have hq2 := HF.out.2.2.2
          generalize plainL t = q at *
          have hqe : (p == q) = (s == t) := by
            rw [Bool.eq_iff_iff]
            simp only [beq_iff_eq]
            exact ⟨hq1, hq2⟩
          clear hq1 hq2
          cases hst : (s == t)
          all_goals
            rw [hst] at hqe
            go_wp2_with fail
            refine (right_any s w4 (by omega) HT4.out).mono ?_
            rintro e w5 ⟨rfl, h5⟩
            have H15 := Lib.hid (H14.out.trans h5)
            clear h5
            cases hr : rightL s with
            | false =>
              clear hr
              go_wp2_with fail
              go_ret
              exact ⟨rfl, H15.out⟩
            | true =>
              have hps : (p == s) = true := by rw [HF.out.2.2.1 hr]; simp
              clear hr
              go_wp2_with fail
              go_ret
              exact ⟨rfl, H15.out⟩
    · have hl2' : (10000 : Int) < t.length := by omega
      go_wp2_with fail
      go_ret
      exact ⟨rfl, h1⟩
  · have hl' : (10000 : Int) < s.length := by omega
    go_wp2_with fail
    go_ret
    exact ⟨rfl, h1⟩

theorem NameEyes_walk (v0 v1 : Value) (w : World) {b0 b1 : Nat} (hv0 : Value.okWide Tryd.prog w .any b0 9 v0) (h0 : Op Tryd.prog w 9 v0.cells.toList) (hv1 : Value.okWide Tryd.prog w .any b1 9 v1) (h1 : Op Tryd.prog w 9 v1.cells.toList) (hT : Tabs w) :
    Calls Tryd.prog 6 #[v0, v1] w fun e w' => e = .returned (.bool true) ∧ Below w.heap.size w w' := by
  obtain ⟨s, rfl⟩ := okWide_string Tryd.underlying9 hv0
  obtain ⟨s1, rfl⟩ := okWide_string Tryd.underlying9 hv1
  obtain ⟨l, e, hl⟩ := h0.str Tryd.underlying9
  simp [Value.cells] at e
  subst e
  obtain ⟨l1, e, hl1⟩ := h1.str Tryd.underlying9
  simp [Value.cells] at e
  subst e
  exact (eyes_any l l1 w hl hl1 hT).mono fun e w' ⟨he, k⟩ => ⟨he, k.below0⟩

set_option maxRecDepth 100000 in
theorem NameEyes_lifted (os : Os) (started : os.Started) (H : Type) (enc : TypeId × Value → H) :
    ReturnsInHanded {} Tryd.checked os 6 .any (fun w args => (Rows.nameEyesSpec.pre enc Tryd.prog Tryd.f6 [] false w args ∧ laidMetH Tryd.prog tabsLaid w) ∧ sizedMet enc Tryd.prog Tryd.f6 (OpenSpec.ofChange Rows.nameEyesSpec) false w args)
      (Rows.nameEyesSpec.post enc Tryd.prog Tryd.f6 false true false false) := by
  refine returnsInHanded_of_change_and (C := Tryd.checked) (X := fun w _ => laidMetH Tryd.prog tabsLaid w) (fun _ _ _ hh h => h.of_heap hh) (by kernel_rfl) started (by kernel_rfl) Tryd.func6
    (ChangeSpec.witness_shaped (enc := enc) (C := Tryd.checked) (os := os) (X := fun w _ => laidMetH Tryd.prog tabsLaid w) false (World.laidAll Tryd.prog os tabsLaid) #[.string ⟨#[]⟩, .string ⟨#[]⟩] 8 (World.laidAll_os _ _ _)
      (World.shaped_of_ZipB (by kernel_rfl) (by kernel_rfl)) (by kernel_rfl) (by kernel_rfl) (by kernel_rfl)
      (by rw [MakeChecks.laidMetH_plain _ _ _ (by kernel_rfl)]; exact laidMet_laidAll _ (by kernel_rfl) (by kernel_rfl))) ?_
  intro W base args ds gs before hval0 hW _ hsz0 hL _
  have hval : ∀ (j : Nat) t v, Tryd.f6.params[j]? = some t → args[j]? = some v → Value.okWide Tryd.prog W .any base t v := hval0
  have hsz : (DataW.weightsEach Tryd.prog (Tryd.f6.params.toList ++ Rows.nameEyesSpec.plain.varTypes Tryd.prog) (ds ++ gs)).all (· ≤ reachBytes) = true := hsz0
  have hW' := hW
  have hT := tabs_of_laid hL
  obtain ⟨p, q, hA0, hV, rfl, _, _⟩ := hW
  have hA : DataW.TrodAll enc Tryd.prog W 0 (fun _ => true) true Tryd.f6.params.toList args.toList ds p := hA0
  rw [Tryd.params6] at hA hval hsz
  obtain ⟨v0, vs0, d0, ds0, p0, q0, hargs, rfl, rfl, h0, r0⟩ := trodAll_cons hA
  obtain ⟨v1, vs1, d1, ds1, p1, q1, rfl, rfl, rfl, h1, r1⟩ := trodAll_cons r0
  obtain ⟨rfl, rfl, rfl⟩ := trodAll_nil r1
  obtain rfl : args = #[v0, v1] := by cases args; simp_all
  obtain ⟨rfl, rfl⟩ := trodVars_none hV
  have lt0 : ∀ x ∈ p0, x.block < W.heap.size := by obtain ⟨m, hm⟩ := h0; exact DataW.trod_lt m _ _ _ hm
  have o0 := op_of hsz (j := 0) rfl rfl h0
  have lt1 : ∀ x ∈ p1, x.block < W.heap.size := by obtain ⟨m, hm⟩ := h1; exact DataW.trod_lt m _ _ _ hm
  have o1 := op_of hsz (j := 1) rfl rfl h1
  refine (NameEyes_walk v0 v1 W (hval 0 _ v0 rfl rfl) o0 (hval 1 _ v1 rfl rfl) o1 hT).mono fun e W' ⟨he, bel⟩ => ?_
  subst he
  exact ⟨_, rfl, _, _, _, [], _, [], hW', trodAll_mk1 (shut_bool Tryd.underlying4 _), (trodAll_cons_mk (Below.trod (by kernel_rfl) (by kernel_rfl) (of_decide_eq_true (by kernel_rfl)) h0 bel lt0) (trodAll_cons_mk (Below.trod (by kernel_rfl) (by kernel_rfl) (of_decide_eq_true (by kernel_rfl)) h1 bel lt1) trodAll_mk0)), rfl, bel.frame _, fun h => by cases h⟩

/-- The row's statement. -/
theorem NameEyes_row : Rows.NameEyesSaid :=
  OpenClaim.holds_of_wide 6 Tryd.f6 rfl rfl rfl rfl rfl rfl rfl ⟨rfl, rfl, rfl, rfl, rfl⟩ rfl rfl rfl rfl rfl (by kernel_rfl) Tryd.func6 (by kernel_rfl)
    (of_decide_eq_true (by kernel_rfl)) (by unfold Func.isWrapper; rw [if_neg (of_decide_eq_false (by kernel_rfl))]; exact ⟨rfl, rfl⟩)
    (fun os started H enc _ => NameEyes_lifted os started H enc)
/-- The card. -/
theorem NameEyes_holds : Rows.NameEyesCardSaid :=
  Claim7.holds_tied_plain_at .later [] [.data, .pinned] true Rows.nameEyesCard.stood.harness false
    NameEyes_row (fun _ h => by cases h) (by kernel_rfl) (fun _ h => by cases h) nameEyes_row_tie rfl ⟨rfl, rfl⟩ (by kernel_rfl) rfl
    (fun f fn hf hfn => by
      obtain rfl : f = 6 := Option.some.inj ((show Tryd.prog.funcNamed "exchequer/exchequerlaw04.NameEyes" = some 6 by kernel_rfl).symm.trans hf) |>.symm
      obtain rfl : fn = Tryd.f6 := (Option.some.inj (Tryd.func6.symm.trans hfn)).symm
      exact ⟨by kernel_rfl, fun j t ht => by
        rw [Tryd.params6] at ht
        have hm : t ∈ [9, 9] := by simpa using Array.mem_of_getElem? ht
        have hall : ([9, 9].all fun u => !Tryd.prog.wantsStandIn u) = true := by kernel_rfl
        exact (show Tryd.prog.wantsStandIn t = false by simpa using List.all_eq_true.1 hall t hm)⟩)
    (by kernel_rfl)
#print axioms NameEyes_holds
end Go.Proofs.YtbdknljpbgocmaaDoor
