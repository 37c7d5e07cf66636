/-
  NameJoins: two texts that are UTF-8 have together as many runes as each, and a name put behind a name is one as long as there is room. The row lists utf8's two tables as Go lays them. No condition beyond the row's.
-/
import Derived.Test.YtbdknljpbgocmaaDoorNameLaw
namespace Go.Proofs.YtbdknljpbgocmaaDoor
open Go.RowKit Go.Lib Go.ChangeShapes Go.WideShapes Go.ChangeAt
set_option linter.unusedSimpArgs false
set_option linter.unusedVariables false

theorem pieces_len (s : List UInt8) : (pieces s).length ≤ s.length := by
  refine pieces_ind (M := fun s => (pieces s).length ≤ s.length) (by simp [pieces_nil]) (fun r hr hk ih => ?_) (fun r hr hk ih => ?_) s
  · have hl := sz_le r
    rw [pieces_ok r hr hk]
    simp only [List.length_drop, List.length_cons] at ih ⊢
    omega
  · rw [pieces_bad r hr hk]
    simp only [List.length_drop, List.length_cons] at ih ⊢
    omega
theorem count_le (s : List UInt8) : countR 0 s ≤ s.length := by
  have := pieces_len s
  unfold countR
  split <;> omega

set_option maxHeartbeats 1000000 in
theorem joins_any (s t : List UInt8) (w : World) (hs : s.length ≤ 140737488351232) (ht : t.length ≤ 140737488351232) (hT : Tabs w) :
    Calls Tryd.prog 7 #[Str s, Str t] w fun e w' => e = .returned (.bool true) ∧ Step [] [] w w' := by
  have HT := Lib.hid hT
  clear hT
  go_enter Tryd.func7, Tryd.ntmps7
  go_wp2_with fail
  refine (awake_true w HT.out).mono ?_
  rintro e w1 ⟨rfl, h1⟩
  have HT1 := Lib.hid (HT.out.step h1)
  by_cases hl : s.length ≤ 10000
  · have hl' : ¬ (10000 : Int) < s.length := by omega
    by_cases hl2 : t.length ≤ 10000
    · have hl2' : ¬ (10000 : Int) < t.length := by omega
      have hcs := count_le s
      have hct := count_le t
      have hcj := count_join s t
      have hrj := right_join s t
      have hos := countR_ge s
      have hot := countR_ge t
      obtain ⟨cs, hes⟩ : ∃ cs, countR 0 s = cs := ⟨_, rfl⟩
      obtain ⟨ct, het⟩ : ∃ ct, countR 0 t = ct := ⟨_, rfl⟩
      rw [hes] at hcs hcj hrj hos
      rw [het] at hct hcj hrj hot
      have HES := Lib.hid hes
      have HET := Lib.hid het
      have HJ := Lib.hid (And.intro hcj (And.intro hrj (And.intro hos hot)))
      clear hcj hrj hos hot hes het
      have H1 := Lib.hid h1
      clear h1
      go_wp2_with fail
      refine (count_any s w1 (by omega) HT1.out).mono ?_
      rintro e w2 ⟨rfl, h2⟩
      rw [HES.out]
      have H2 := Lib.hid (H1.out.trans h2)
      have HT2 := Lib.hid (HT1.out.step h2)
      clear h2
      by_cases hc0 : 0 ≤ cs
      · have hc0' : ¬ cs < 0 := by omega
        go_wp2_with fail
        refine (count_any t w2 (by omega) HT2.out).mono ?_
        rintro e w3 ⟨rfl, h3⟩
        rw [HET.out]
        have H3 := Lib.hid (H2.out.trans h3)
        have HT3 := Lib.hid (HT2.out.step h3)
        clear h3
        by_cases hd0 : 0 ≤ ct
        · have hd0' : ¬ ct < 0 := by omega
          have HO := Lib.hid (And.intro (HJ.out.2.2.1.1 hc0) (HJ.out.2.2.2.1 hd0))
          have HC := Lib.hid (HJ.out.1 HO.out.1 HO.out.2).1
          have HR := Lib.hid (HJ.out.2.1 HO.out.1 HO.out.2)
          have hsl : s.length + t.length ≤ 9223372036854775807 := by omega
          go_wp2_with fail
          refine (count_any s w3 (by omega) HT3.out).mono ?_
          rintro e w4 ⟨rfl, h4⟩
          rw [HES.out]
          have H4 := Lib.hid (H3.out.trans h4)
          have HT4 := Lib.hid (HT3.out.step h4)
          clear h4
          go_wp2_with fail
          refine (count_any t w4 (by omega) HT4.out).mono ?_
          rintro e w5 ⟨rfl, h5⟩
          rw [HET.out]
          have H5 := Lib.hid (H4.out.trans h5)
          have HT5 := Lib.hid (HT4.out.step h5)
          clear h5
          go_wp2_with fail
          refine (count_any (s ++ t) w5 (by simp; omega) HT5.out).mono ?_
          rintro e w6 ⟨rfl, h6⟩
          rw [HC.out]
          have H6 := Lib.hid (H5.out.trans h6)
          have HT6 := Lib.hid (HT5.out.step h6)
          clear h6
          go_wp2_with fail
          refine (right_any s w6 (by omega) HT6.out).mono ?_
          rintro e w7 ⟨rfl, h7⟩
          have H7 := Lib.hid (H6.out.trans h7)
          have HT7 := Lib.hid (HT6.out.step h7)
          clear h7
          cases hr : rightL s with
          | false =>
            clear hr
            go_wp2_with fail
            go_ret
            exact ⟨rfl, H7.out⟩
          | true =>
            have HR1 := Lib.hid (HR.out hr)
            clear hr
            go_wp2_with fail
            refine (right_any t w7 (by omega) HT7.out).mono ?_
            rintro e w8 ⟨rfl, h8⟩
            have H8 := Lib.hid (H7.out.trans h8)
            have HT8 := Lib.hid (HT7.out.step h8)
            clear h8
            cases hr2 : rightL t with
            | false =>
              clear hr2
              go_wp2_with fail
              go_ret
              exact ⟨rfl, H8.out⟩
            | true =>
              have HR2 := Lib.hid (HR1.out hr2)
              clear hr2
              go_wp2_with fail
              refine (right_any (s ++ t) w8 (by simp; omega) HT8.out).mono ?_
              rintro e w9 ⟨rfl, h9⟩
              rw [HR2.out]
              have H9 := Lib.hid (H8.out.trans h9)
              clear h9
              go_wp2_with fail
              go_ret
              exact ⟨by simp, H9.out⟩
        · have hd0' : ct < 0 := by omega
          go_wp2_with fail
          go_ret
          exact ⟨rfl, H3.out⟩
      · have hc0' : cs < 0 := by omega
        go_wp2_with fail
        go_ret
        exact ⟨rfl, H2.out⟩
    · have hl2' : (10000 : Int) < t.length := by omega
      go_wp2_with fail
      go_ret
      exact ⟨rfl, h1⟩
  · have hl' : (10000 : Int) < s.length := by omega
    go_wp2_with fail
    go_ret
    exact ⟨rfl, h1⟩

theorem NameJoins_walk (v0 v1 : Value) (w : World) {b0 b1 : Nat} (hv0 : Value.okWide Tryd.prog w .any b0 9 v0) (h0 : Op Tryd.prog w 9 v0.cells.toList) (hv1 : Value.okWide Tryd.prog w .any b1 9 v1) (h1 : Op Tryd.prog w 9 v1.cells.toList) (hT : Tabs w) :
    Calls Tryd.prog 7 #[v0, v1] w fun e w' => e = .returned (.bool true) ∧ Below w.heap.size w w' := by
  obtain ⟨s, rfl⟩ := okWide_string Tryd.underlying9 hv0
  obtain ⟨s1, rfl⟩ := okWide_string Tryd.underlying9 hv1
  obtain ⟨l, e, hl⟩ := h0.str Tryd.underlying9
  simp [Value.cells] at e
  subst e
  obtain ⟨l1, e, hl1⟩ := h1.str Tryd.underlying9
  simp [Value.cells] at e
  subst e
  exact (joins_any l l1 w hl hl1 hT).mono fun e w' ⟨he, k⟩ => ⟨he, k.below0⟩

set_option maxRecDepth 100000 in
theorem NameJoins_lifted (os : Os) (started : os.Started) (H : Type) (enc : TypeId × Value → H) :
    ReturnsInHanded {} Tryd.checked os 7 .any (fun w args => (Rows.nameJoinsSpec.pre enc Tryd.prog Tryd.f7 [] false w args ∧ laidMetH Tryd.prog tabsLaid w) ∧ sizedMet enc Tryd.prog Tryd.f7 (OpenSpec.ofChange Rows.nameJoinsSpec) false w args)
      (Rows.nameJoinsSpec.post enc Tryd.prog Tryd.f7 false true false false) := by
  refine returnsInHanded_of_change_and (C := Tryd.checked) (X := fun w _ => laidMetH Tryd.prog tabsLaid w) (fun _ _ _ hh h => h.of_heap hh) (by kernel_rfl) started (by kernel_rfl) Tryd.func7
    (ChangeSpec.witness_shaped (enc := enc) (C := Tryd.checked) (os := os) (X := fun w _ => laidMetH Tryd.prog tabsLaid w) false (World.laidAll Tryd.prog os tabsLaid) #[.string ⟨#[]⟩, .string ⟨#[]⟩] 8 (World.laidAll_os _ _ _)
      (World.shaped_of_ZipB (by kernel_rfl) (by kernel_rfl)) (by kernel_rfl) (by kernel_rfl) (by kernel_rfl)
      (by rw [MakeChecks.laidMetH_plain _ _ _ (by kernel_rfl)]; exact laidMet_laidAll _ (by kernel_rfl) (by kernel_rfl))) ?_
  intro W base args ds gs before hval0 hW _ hsz0 hL _
  have hval : ∀ (j : Nat) t v, Tryd.f7.params[j]? = some t → args[j]? = some v → Value.okWide Tryd.prog W .any base t v := hval0
  have hsz : (DataW.weightsEach Tryd.prog (Tryd.f7.params.toList ++ Rows.nameJoinsSpec.plain.varTypes Tryd.prog) (ds ++ gs)).all (· ≤ reachBytes) = true := hsz0
  have hW' := hW
  have hT := tabs_of_laid hL
  obtain ⟨p, q, hA0, hV, rfl, _, _⟩ := hW
  have hA : DataW.TrodAll enc Tryd.prog W 0 (fun _ => true) true Tryd.f7.params.toList args.toList ds p := hA0
  rw [Tryd.params7] at hA hval hsz
  obtain ⟨v0, vs0, d0, ds0, p0, q0, hargs, rfl, rfl, h0, r0⟩ := trodAll_cons hA
  obtain ⟨v1, vs1, d1, ds1, p1, q1, rfl, rfl, rfl, h1, r1⟩ := trodAll_cons r0
  obtain ⟨rfl, rfl, rfl⟩ := trodAll_nil r1
  obtain rfl : args = #[v0, v1] := by cases args; simp_all
  obtain ⟨rfl, rfl⟩ := trodVars_none hV
  have lt0 : ∀ x ∈ p0, x.block < W.heap.size := by obtain ⟨m, hm⟩ := h0; exact DataW.trod_lt m _ _ _ hm
  have o0 := op_of hsz (j := 0) rfl rfl h0
  have lt1 : ∀ x ∈ p1, x.block < W.heap.size := by obtain ⟨m, hm⟩ := h1; exact DataW.trod_lt m _ _ _ hm
  have o1 := op_of hsz (j := 1) rfl rfl h1
  refine (NameJoins_walk v0 v1 W (hval 0 _ v0 rfl rfl) o0 (hval 1 _ v1 rfl rfl) o1 hT).mono fun e W' ⟨he, bel⟩ => ?_
  subst he
  exact ⟨_, rfl, _, _, _, [], _, [], hW', trodAll_mk1 (shut_bool Tryd.underlying4 _), (trodAll_cons_mk (Below.trod (by kernel_rfl) (by kernel_rfl) (of_decide_eq_true (by kernel_rfl)) h0 bel lt0) (trodAll_cons_mk (Below.trod (by kernel_rfl) (by kernel_rfl) (of_decide_eq_true (by kernel_rfl)) h1 bel lt1) trodAll_mk0)), rfl, bel.frame _, fun h => by cases h⟩

/-- The row's statement. -/
theorem NameJoins_row : Rows.NameJoinsSaid :=
  OpenClaim.holds_of_wide 7 Tryd.f7 rfl rfl rfl rfl rfl rfl rfl ⟨rfl, rfl, rfl, rfl, rfl⟩ rfl rfl rfl rfl rfl (by kernel_rfl) Tryd.func7 (by kernel_rfl)
    (of_decide_eq_true (by kernel_rfl)) (by unfold Func.isWrapper; rw [if_neg (of_decide_eq_false (by kernel_rfl))]; exact ⟨rfl, rfl⟩)
    (fun os started H enc _ => NameJoins_lifted os started H enc)
/-- The card. -/
theorem NameJoins_holds : Rows.NameJoinsCardSaid :=
  Claim7.holds_tied_plain_at .later [] [.data, .pinned] true Rows.nameJoinsCard.stood.harness false
    NameJoins_row (fun _ h => by cases h) (by kernel_rfl) (fun _ h => by cases h) nameJoins_row_tie rfl ⟨rfl, rfl⟩ (by kernel_rfl) rfl
    (fun f fn hf hfn => by
      obtain rfl : f = 7 := Option.some.inj ((show Tryd.prog.funcNamed "exchequer/exchequerlaw04.NameJoins" = some 7 by kernel_rfl).symm.trans hf) |>.symm
      obtain rfl : fn = Tryd.f7 := (Option.some.inj (Tryd.func7.symm.trans hfn)).symm
      exact ⟨by kernel_rfl, fun j t ht => by
        rw [Tryd.params7] at ht
        have hm : t ∈ [9, 9] := by simpa using Array.mem_of_getElem? ht
        have hall : ([9, 9].all fun u => !Tryd.prog.wantsStandIn u) = true := by kernel_rfl
        exact (show Tryd.prog.wantsStandIn t = false by simpa using List.all_eq_true.1 hall t hm)⟩)
    (by kernel_rfl)
#print axioms NameJoins_holds
end Go.Proofs.YtbdknljpbgocmaaDoor
