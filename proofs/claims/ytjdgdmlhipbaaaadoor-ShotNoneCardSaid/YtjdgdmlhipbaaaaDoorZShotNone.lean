/-
 ShotNone: over no disk all is down. The row lists the library's tables as Go lays them. No condition beyond the row's.
-/
import Derived.Test.YtjdgdmlhipbaaaaDoorZGJ
namespace Go.Proofs.YtjdgdmlhipbaaaaDoor
open Go.RowKit Go.Lib Go.ChangeShapes Go.WideShapes Go.ChangeAt
set_option linter.unusedSimpArgs false
set_option linter.unusedVariables false
set_option maxRecDepth 100000

set_option maxHeartbeats 4000000 in
theorem none08_any (s : Sn) (w : World) (hT : PTab w) (hU : Tabs w) (hl : s.dt.length ≤ 140737488351232) : Calls Tryd.prog 4 #[snV s] w fun e w' => e = .returned (.bool true) ∧ Step [] [] w w' := by
 have HT := Lib.hid (And.intro hT hU)
 have HB := Lib.hid hl
 clear hT hU
 go_enter Tryd.func4, Tryd.ntmps4
 go_upto_region 1 with fail
 obtain ⟨b, hb⟩ : ∃ b, b = w.heap.size := ⟨_, rfl⟩
 obtain ⟨V, hV⟩ : ∃ V, V = w.alloc (.cells (snc s).toArray 29) := ⟨_, rfl⟩
 have H1 : Hid (Blk V b 29 (snc s).toArray ∧ Step [] [] w V) := by
  subst hV hb
  exact ⟨Blk.new w _ _, (Step.refl [] w).alloc _⟩
 change Code.wp _ _ _ _ (w.alloc (.cells (snc s).toArray 29))
 rw [← hV]
 try rw [← hb]
 clear hV hb
 go_wp2_with fail
 refine (awake08_true V (HT.out.1.step H1.out.2) (HT.out.2.step H1.out.2)).mono ?_
 rintro e W ⟨rfl, hw⟩
 have H2 : Hid (Blk W b 29 (snc s).toArray ∧ Step [] [] w W) := Lib.hid ⟨H1.out.1.step hw (by simp), H1.out.2.trans hw⟩
 clear hw H1
 go_wp2_with fail
 refine (load_nil W).mono ?_
 rintro e W1 ⟨rfl, st1⟩
 have H3 : Hid (Blk W1 b 29 (snc s).toArray ∧ Step [] [] w W1) := Lib.hid ⟨H2.out.1.step st1 (by simp), H2.out.2.trans st1⟩
 clear st1 H2
 go_upto_region 4 with fail
 obtain ⟨tb, htb⟩ : ∃ tb, tb = W1.heap.size := ⟨_, rfl⟩
 obtain ⟨V, hV⟩ : ∃ V, V = W1.alloc (.cells (snc sn0).toArray 29) := ⟨_, rfl⟩
 have H4 : Hid (Blk V b 29 (snc s).toArray ∧ Step [] [] w V ∧ Blk V tb 29 (snc sn0).toArray) := by
  subst hV htb
  exact ⟨H3.out.1.alloc _, H3.out.2.alloc _, Blk.new W1 _ _⟩
 change Code.wp _ _ _ _ (W1.alloc (.cells (snc sn0).toArray 29))
 rw [← hV]
 try rw [← htb]
 clear hV htb H3
 have fc := H4.out.1.cell
 have f0 := fc 0
 have f1 := fc 1
 have f2 := fc 2
 clear fc
 simp only [snc, List.getElem?_toArray, List.getElem?_cons_zero, List.getElem?_cons_succ] at f0 f1 f2
 go_wp2_with fail
 refine (save_nil s V (HT.out.1.step H4.out.2.1) (by omega)).mono ?_
 rintro e W2 ⟨rfl, st2⟩
 have H5 : Hid (Blk W2 b 29 (snc s).toArray ∧ Step [] [] w W2 ∧ Blk W2 tb 29 (snc sn0).toArray) := Lib.hid ⟨H4.out.1.step st2 (by simp), H4.out.2.1.trans st2, H4.out.2.2.step st2 (by simp)⟩
 clear st2 H4 f0 f1 f2
 have fc := H5.out.1.cell
 have f0 := fc 0
 have f1 := fc 1
 have f2 := fc 2
 clear fc
 simp only [snc, List.getElem?_toArray, List.getElem?_cons_zero, List.getElem?_cons_succ] at f0 f1 f2
 have fc := H5.out.2.2.cell
 have g0 := fc 0
 have g1 := fc 1
 have g2 := fc 2
 clear fc
 simp only [snc, List.getElem?_toArray, List.getElem?_cons_zero, List.getElem?_cons_succ] at g0 g1 g2
 by_cases hr : rightSn s = true
 ·rw [if_pos hr]
  go_wp2_with fail
  refine (clean_nil W2).mono ?_
  rintro e W3 ⟨rfl, st3⟩
  have H6 : Hid (Step [] [] w W3) := Lib.hid (H5.out.2.1.trans st3)
  clear st3 H5 f0 f1 f2 g0 g1 g2
  go_wp2_with fail
  exact bodyPost_ret (results_tmp rfl _ _ _) rfl ⟨rfl, H6.out⟩
 ·have hr' : rightSn s = false := by simpa using hr
  rw [if_neg hr]
  go_wp2_with fail
  refine (clean_nil W2).mono ?_
  rintro e W3 ⟨rfl, st3⟩
  have H6 : Hid (Blk W3 b 29 (snc s).toArray ∧ Step [] [] w W3) := Lib.hid ⟨H5.out.1.step st3 (by simp), H5.out.2.1.trans st3⟩
  clear st3 H5 f0 f1 f2 g0 g1 g2
  have fc := H6.out.1.cell
  have f0 := fc 0
  have f1 := fc 1
  have f2 := fc 2
  clear fc
  simp only [snc, List.getElem?_toArray, List.getElem?_cons_zero, List.getElem?_cons_succ] at f0 f1 f2
  go_wp2_with fail
  refine (ref08Right_any s W3 (by omega)).mono ?_
  rintro e W4 ⟨rfl, st4⟩
  rw [hr']
  have H7 : Hid (Step [] [] w W4) := Lib.hid (H6.out.2.trans st4)
  clear st4 H6 f0 f1 f2
  go_wp2_with fail
  exact bodyPost_ret (results_tmp rfl _ _ _) rfl ⟨rfl, H7.out⟩
theorem ShotNone_walk (v0 : Value) (w : World) {b0 : Nat} (h0 : Value.okWide Tryd.prog w .any b0 29 v0) (o0 : Op Tryd.prog w 29 v0.cells.toList) (hT : LTabs w) :
  Calls Tryd.prog 4 #[v0] w fun e w' => e = .returned (.bool true) ∧ Below w.heap.size w w' := by
 obtain ⟨o, rfl, hB⟩ := arg_sn h0 o0
 exact (none08_any o w hT.pow hT.u8 hB.dt).mono fun e w' ⟨h1, h2⟩ => ⟨h1, h2.below0⟩

set_option maxRecDepth 100000 in
theorem ShotNone_lifted (os : Os) (started : os.Started) (H : Type) (enc : TypeId × Value → H) :
  ReturnsInHanded {} Tryd.checked os 4 .any (fun w args => (Rows.shotNoneSpec.pre enc Tryd.prog Tryd.f4 [] false w args ∧ laidMetH Tryd.prog scrLaid w) ∧ sizedMet enc Tryd.prog Tryd.f4 (OpenSpec.ofChange Rows.shotNoneSpec) false w args)
   (Rows.shotNoneSpec.post enc Tryd.prog Tryd.f4 false true false false) := by
 refine returnsInHanded_of_change_tabs (C := Tryd.checked) (X := fun w _ => laidMetH Tryd.prog scrLaid w) (fun _ _ _ hh h => h.of_heap hh) (by kernel_rfl) started (by kernel_rfl) Tryd.func4
  (ChangeSpec.witness_shaped (enc := enc) (C := Tryd.checked) (os := os) (X := fun w _ => laidMetH Tryd.prog scrLaid w) false (World.laidAll Tryd.prog os scrLaid) #[.agg #[.int .i64 0, .int .i64 0, .string ⟨#[]⟩]] 8 (World.laidAll_os _ _ _)
   (World.shaped_of_ZipB (by kernel_rfl) (by kernel_rfl)) (by kernel_rfl) (by kernel_rfl) (by kernel_rfl)
   (by rw [MakeChecks.laidMetH_plain _ _ _ (by kernel_rfl)]; exact laidMet_laidAll _ (by kernel_rfl) (by kernel_rfl))) ?_
 intro W base args ds gs before hval0 hW _ hsz0 hL hS _
 have hval : ∀ (j : Nat) t v, Tryd.f4.params[j]? = some t → args[j]? = some v → Value.okWide Tryd.prog W .any base t v := hval0
 have hsz : (DataW.weightsEach Tryd.prog (Tryd.f4.params.toList ++ Rows.shotNoneSpec.plain.varTypes Tryd.prog) (ds ++ gs)).all (· ≤ reachBytes) = true := hsz0
 have hW' := hW
 have hT := stabs_of hL hS
 obtain ⟨p, q, hA0, hV, rfl, _, _⟩ := hW
 have hA : DataW.TrodAll enc Tryd.prog W 0 (fun _ => true) true Tryd.f4.params.toList args.toList ds p := hA0
 rw [Tryd.params4] at hA hval hsz
 obtain ⟨v0, vs0, d0, ds0, p0, q0, hargs, rfl, rfl, h0, r0⟩ := trodAll_cons hA
 obtain ⟨rfl, rfl, rfl⟩ := trodAll_nil r0
 obtain rfl : args = #[v0] := by cases args; simp_all
 obtain ⟨rfl, rfl⟩ := trodVars_none hV
 have lt0 : ∀ x ∈ p0, x.block < W.heap.size := by obtain ⟨m, hm⟩ := h0; exact DataW.trod_lt m _ _ _ hm
 have o0 := op_of hsz (j := 0) rfl rfl h0
 refine (ShotNone_walk v0 W (hval 0 _ v0 rfl rfl) o0 hT).mono fun e W' ⟨he, bel⟩ => ?_
 subst he
 exact ⟨_, rfl, _, _, _, [], _, [], hW', trodAll_mk1 (shut_bool Tryd.underlying4 _), (trodAll_cons_mk (Below.trod (by kernel_rfl) (by kernel_rfl) (of_decide_eq_true (by kernel_rfl)) h0 bel lt0) trodAll_mk0), rfl, bel.frame _, fun h => by cases h⟩

/-- The row's statement. -/
theorem ShotNone_row : Rows.ShotNoneSaid :=
 OpenClaim.holds_of_wide 4 Tryd.f4 rfl rfl rfl rfl rfl rfl rfl ⟨rfl, rfl, rfl, rfl, rfl⟩ rfl rfl rfl rfl rfl (by kernel_rfl) Tryd.func4 (by kernel_rfl)
  (of_decide_eq_true (by kernel_rfl)) (by unfold Func.isWrapper; rw [if_neg (of_decide_eq_false (by kernel_rfl))]; exact ⟨rfl, rfl⟩)
  (fun os started H enc _ => ShotNone_lifted os started H enc)
/-- The card. -/
theorem ShotNone_holds : Rows.ShotNoneCardSaid :=
 Claim7.holds_tied_plain_at .later [] [.data, .data, .data, .data, .pinned] true Rows.shotNoneCard.stood.harness false
  ShotNone_row (fun _ h => by cases h) (by kernel_rfl) (fun _ h => by cases h) shotNone_row_tie rfl ⟨rfl, rfl⟩ (by kernel_rfl) rfl
  (fun f fn hf hfn => by
   obtain rfl : f = 4 := Option.some.inj ((show Tryd.prog.funcNamed "exchequer/exchequerlaw08.ShotNone" = some 4 by kernel_rfl).symm.trans hf) |>.symm
   obtain rfl : fn = Tryd.f4 := (Option.some.inj (Tryd.func4.symm.trans hfn)).symm
   exact ⟨by kernel_rfl, fun j t ht => by
    rw [Tryd.params4] at ht
    have hm : t ∈ [29] := by simpa using Array.mem_of_getElem? ht
    have hall : ([29].all fun u => !Tryd.prog.wantsStandIn u) = true := by kernel_rfl
    exact (show Tryd.prog.wantsStandIn t = false by simpa using List.all_eq_true.1 hall t hm)⟩)
  (by kernel_rfl)
#print axioms ShotNone_holds
end Go.Proofs.YtjdgdmlhipbaaaaDoor
