/-
  ScriptBytes: any events have the bytes that the document says, and come back from them; or none, if one isn't right. The row lists tables of the library as Go lays them. No condition beyond the row's.
-/
import Derived.Test.YtnklfcejdkpjfaaDoorScrE
namespace Go.Proofs.YtnklfcejdkpjfaaDoor
open Go.RowKit Go.ChangeShapes Go.WideShapes Go.ChangeAt
set_option linter.unusedSimpArgs false
set_option linter.unusedVariables false
set_option maxRecDepth 100000

theorem evs_in {w : World} {v : Value} {b : Nat} (hv : Value.okWide Tryd.prog w .any b 33 v) (h : Op Tryd.prog w 33 v.cells.toList) :
    ∃ (l : List Ev) (a : Option Addr) (cap : Nat), v = .slice a l.length cap ∧ Rd w 5 a l.length (evcs l) ∧ l.length ≤ 9223372036854775807 := by
  obtain ⟨a, n, cap, rfl⟩ := okWide_slice Tryd.underlying33 hv
  obtain ⟨a', n', cap', e, g1, g2, g3, g4⟩ := h.slice Tryd.underlying33 (sz := 5) (by kernel_rfl)
  simp [Value.cells] at e
  obtain ⟨rfl, rfl, rfl⟩ := e
  obtain ⟨ts, hts, hrd, -⟩ := rd_of (w := w) evc 5 (by omega) evc_len (fun _ => True) (n := n) (a := a) (fun i hi => by
    obtain ⟨cs', hl', hc, ho⟩ := g4 i hi
    obtain ⟨x, hx⟩ := op_ev ho
    subst hx
    exact ⟨x, hc, trivial⟩)
  subst hts
  exact ⟨ts, a, cap, rfl, hrd, by unfold maxLen at g2; omega⟩
set_option maxHeartbeats 16000000 in
theorem bytes25_any (l : List Ev) (a : Option Addr) (cap : Nat) (w : World) (hT : STabs w) (hr : Rd w 5 a l.length (evcs l)) (hl : l.length ≤ 9223372036854775807) : Calls Tryd.prog 6 #[.slice a l.length cap] w fun e w' => e = .returned (.bool true) ∧ Step [] [] w w' := by
  have HTT := Lib.hid hT
  have HR := Lib.hid hr
  clear hT hr
  go_enter Tryd.func6, Tryd.ntmps6
  go_wp2_with fail
  refine (awake25_true w HTT.out).mono ?_
  rintro e w1 ⟨rfl, k1⟩
  have H1 := Lib.hid k1
  clear k1
  by_cases hg : 1000 < l.length
  · have hgd : decide (1000 < l.length) = true := decide_eq_true hg
    have hgi : decide ((1000 : Int) < (l.length : Int)) = true := decide_eq_true (by omega)
    clear hg
    go_wp2_with fail
    exact bodyPost_ret (results_tmp rfl _ _ _) rfl ⟨rfl, H1.out⟩
  · have hgd : decide (1000 < l.length) = false := decide_eq_false hg
    have hgi : decide ((1000 : Int) < (l.length : Int)) = false := decide_eq_false (by omega)
    have hl1 : l.length ≤ 1000 := by omega
    clear hg
    go_wp2_with fail
    refine (encode_any l a cap w1 (HR.out.step0 H1.out) hl1).mono ?_
    rintro e w2 ⟨k2, h2⟩
    have H2 := Lib.hid (H1.out.trans k2)
    clear k2 H1
    rcases h2 with ⟨hfe, oa, oc, rfl, hrw⟩ | ⟨hnf, rfl⟩
    · have HFE := Lib.hid hfe
      have HRW := Lib.hid hrw
      have hll : l.length ≤ 400 := hfe.1
      clear hfe hrw
      have hz4 : ∃ z : Bool, z = decide (l.length ≤ 400) := ⟨_, rfl⟩
      obtain ⟨z4, hz4⟩ := hz4
      have HZ4 := Lib.hid hz4
      have hzi : decide ((l.length : Int) ≤ 400) = z4 := by rw [hz4]; congr 1; exact propext (by omega)
      have hzn : decide (l.length ≤ 400) = z4 := hz4.symm
      clear hz4
      go_wp2_with fail
      go_loopw [5, 22] (fun vf v W => ∃ (i : Nat) (f : Bool), i ≤ l.length ∧ vf = .bool f ∧ v = .int .i64 i ∧ Hid ((f = (z4 && (l.take i).all rightE)) ∧ Step [] [] w2 W)) (fun _ v _ => l.length - (intOf v).toNat)
      case atStart => exact ⟨0, z4, by omega, by first | rfl | simp, rfl, Lib.hid ⟨by simp, Step.refl _ _⟩⟩
      case round =>
        rename World => W
        obtain ⟨i, f, hi, rfl, rfl, HW⟩ := hrel
        by_cases hlt : i < l.length
        · have hlt' : (i : Int) < l.length := by omega
          obtain ⟨x, hx⟩ : ∃ x, l[i]? = some x := ⟨_, List.getElem?_eq_getElem hlt⟩
          have HAN : Hid ((l.take (i + 1)).all rightE = ((l.take i).all rightE && rightE x)) := Lib.hid (by rw [List.take_add_one, hx, List.all_append]; simp)
          cases f with
          | false =>
            have HNX : Hid ((false = (z4 && (l.take (i + 1)).all rightE)) ∧ Step [] [] w2 W) := Lib.hid ⟨by rw [HAN.out, ← Bool.and_assoc, ← HW.out.1]; rfl, HW.out.2⟩
            clear hx
            go_wp2_with fail
            go_roundw
            case rel => exact ⟨i + 1, false, by omega, rfl, by go_num, HNX⟩
            case measure => simp [intOf]; omega
          | true =>
            have r1 := (HR.out.step0 H2.out).step0 HW.out.2
            obtain ⟨g, off, hs1⟩ := r1.some_ (by omega)
            rw [hs1] at r1
            have q1 := rd_ev r1 hx
            obtain ⟨q10, q11, q12, q13, q14⟩ := q1
            have gl : g < W.heap.size := lt_of_cellS q10
            have HS1 := Lib.hid hs1
            rw [hs1]
            clear r1 hx hs1
            go_wp2_with fail
            refine (refRight_any x W).mono ?_
            rintro e W2 ⟨rfl, k2⟩
            have HNX : Hid ((rightE x = (z4 && (l.take (i + 1)).all rightE)) ∧ Step [] [] w2 W2) := Lib.hid ⟨by rw [HAN.out, ← Bool.and_assoc, ← HW.out.1]; rfl, HW.out.2.trans k2⟩
            clear k2 HW q10 q11 q12 q13 q14 gl
            go_wp2_with fail
            go_roundw
            case rel => exact ⟨i + 1, rightE x, by omega, rfl, by go_num, HNX⟩
            case measure => simp [intOf]; omega
        · obtain rfl : i = l.length := by omega
          have hnl : ¬ (l.length : Int) < l.length := by omega
          rw [List.take_length] at HW
          have HF : Hid (f = true) := Lib.hid (by rw [HW.out.1, HZ4.out]; simp only [Bool.and_eq_true, decide_eq_true_eq, List.all_eq_true]; exact ⟨HFE.out.1, HFE.out.2⟩)
          have hf := HF.out
          subst hf
          have H3 : Hid (Row W 1 oa (5 * l.length) oc ((bytesE l).map bv) ∧ Rd W 5 a l.length (evcs l) ∧ Step [] [] w W) := Lib.hid ⟨HRW.out.step HW.out.2 (by simp), (HR.out.step0 H2.out).step0 HW.out.2, H2.out.trans HW.out.2⟩
          clear HW HF
          have hw5 : IntKind.i64.wrap (5 * (l.length : Int)) = 5 * (l.length : Int) := IntWalk.i64_in _ (by omega)
          have hbl : 5 * l.length = (bytesE l).length := (bytesE_len l).symm
          have HBL := Lib.hid hbl
          clear hbl
          go_wp2_with fail
          have hdc := decode_any (bytesE l) oa oc W (by rw [← HBL.out]; exact H3.out.1.rd) (by rw [← HBL.out]; exact H3.out.1.le) (by rw [← HBL.out]; omega)
          rw [← HBL.out] at hdc
          refine hdc.mono ?_
          rintro e W2 ⟨pa, pc, rfl, h4, k4⟩
          rw [cnt_bytes l hll] at h4 ⊢
          rw [ev_back l HFE.out.2] at h4
          have H4 := Lib.hid (And.intro h4 (And.intro (H3.out.2.1.step0 k4) (H3.out.2.2.trans k4)))
          clear hdc h4 k4 H3
          go_wp2_with fail
          refine (sameOps_any l pa a pc cap W2 H4.out.1 H4.out.2.1 (by omega)).mono ?_
          rintro e W3 ⟨rfl, k5⟩
          have H5 := Lib.hid (H4.out.2.2.trans k5)
          clear k5 H4
          go_wp2_with fail
          exact bodyPost_ret (results_tmp rfl _ _ _) rfl ⟨rfl, H5.out⟩
    · have HNF := Lib.hid hnf
      clear hnf
      have hz4 : ∃ z : Bool, z = decide (l.length ≤ 400) := ⟨_, rfl⟩
      obtain ⟨z4, hz4⟩ := hz4
      have HZ4 := Lib.hid hz4
      have hzi : decide ((l.length : Int) ≤ 400) = z4 := by rw [hz4]; congr 1; exact propext (by omega)
      have hzn : decide (l.length ≤ 400) = z4 := hz4.symm
      clear hz4
      go_wp2_with fail
      go_loopw [5, 22] (fun vf v W => ∃ (i : Nat) (f : Bool), i ≤ l.length ∧ vf = .bool f ∧ v = .int .i64 i ∧ Hid ((f = (z4 && (l.take i).all rightE)) ∧ Step [] [] w2 W)) (fun _ v _ => l.length - (intOf v).toNat)
      case atStart => exact ⟨0, z4, by omega, by first | rfl | simp, rfl, Lib.hid ⟨by simp, Step.refl _ _⟩⟩
      case round =>
        rename World => W
        obtain ⟨i, f, hi, rfl, rfl, HW⟩ := hrel
        by_cases hlt : i < l.length
        · have hlt' : (i : Int) < l.length := by omega
          obtain ⟨x, hx⟩ : ∃ x, l[i]? = some x := ⟨_, List.getElem?_eq_getElem hlt⟩
          have HAN : Hid ((l.take (i + 1)).all rightE = ((l.take i).all rightE && rightE x)) := Lib.hid (by rw [List.take_add_one, hx, List.all_append]; simp)
          cases f with
          | false =>
            have HNX : Hid ((false = (z4 && (l.take (i + 1)).all rightE)) ∧ Step [] [] w2 W) := Lib.hid ⟨by rw [HAN.out, ← Bool.and_assoc, ← HW.out.1]; rfl, HW.out.2⟩
            clear hx
            go_wp2_with fail
            go_roundw
            case rel => exact ⟨i + 1, false, by omega, rfl, by go_num, HNX⟩
            case measure => simp [intOf]; omega
          | true =>
            have r1 := (HR.out.step0 H2.out).step0 HW.out.2
            obtain ⟨g, off, hs1⟩ := r1.some_ (by omega)
            rw [hs1] at r1
            have q1 := rd_ev r1 hx
            obtain ⟨q10, q11, q12, q13, q14⟩ := q1
            have gl : g < W.heap.size := lt_of_cellS q10
            have HS1 := Lib.hid hs1
            rw [hs1]
            clear r1 hx hs1
            go_wp2_with fail
            refine (refRight_any x W).mono ?_
            rintro e W2 ⟨rfl, k2⟩
            have HNX : Hid ((rightE x = (z4 && (l.take (i + 1)).all rightE)) ∧ Step [] [] w2 W2) := Lib.hid ⟨by rw [HAN.out, ← Bool.and_assoc, ← HW.out.1]; rfl, HW.out.2.trans k2⟩
            clear k2 HW q10 q11 q12 q13 q14 gl
            go_wp2_with fail
            go_roundw
            case rel => exact ⟨i + 1, rightE x, by omega, rfl, by go_num, HNX⟩
            case measure => simp [intOf]; omega
        · obtain rfl : i = l.length := by omega
          have hnl : ¬ (l.length : Int) < l.length := by omega
          rw [List.take_length] at HW
          have HF : Hid (f = false) := Lib.hid (by cases hf : f with | false => rfl | true => exfalso; have h := HW.out.1; rw [hf, HZ4.out] at h; have h2 := h.symm; simp only [Bool.and_eq_true, decide_eq_true_eq, List.all_eq_true] at h2; exact HNF.out ⟨h2.1, h2.2⟩)
          have hf := HF.out
          subst hf
          have H3 := Lib.hid (H2.out.trans HW.out.2)
          clear HW HF
          go_wp2_with fail
          exact bodyPost_ret (results_tmp rfl _ _ _) rfl ⟨rfl, H3.out⟩
theorem ScriptBytes_walk (v0 : Value) (w : World) {b0 : Nat} (h0 : Value.okWide Tryd.prog w .any b0 33 v0) (o0 : Op Tryd.prog w 33 v0.cells.toList) (hT : STabs w) :
    Calls Tryd.prog 6 #[v0] w fun e w' => e = .returned (.bool true) ∧ Below w.heap.size w w' := by
  obtain ⟨l, a, cap, rfl, hr, hl⟩ := evs_in h0 o0
  exact (bytes25_any l a cap w hT hr hl).mono fun e w' ⟨h1, h2⟩ => ⟨h1, h2.below0⟩

set_option maxRecDepth 100000 in
theorem ScriptBytes_lifted (os : Os) (started : os.Started) (H : Type) (enc : TypeId × Value → H) :
    ReturnsInHanded {} Tryd.checked os 6 .any (fun w args => (Rows.scriptBytesSpec.pre enc Tryd.prog Tryd.f6 [] false w args ∧ laidMetH Tryd.prog scrLaid w) ∧ sizedMet enc Tryd.prog Tryd.f6 (OpenSpec.ofChange Rows.scriptBytesSpec) false w args)
      (Rows.scriptBytesSpec.post enc Tryd.prog Tryd.f6 false true false false) := by
  refine returnsInHanded_of_change_tabs (C := Tryd.checked) (X := fun w _ => laidMetH Tryd.prog scrLaid w) (fun _ _ _ hh h => h.of_heap hh) (by kernel_rfl) started (by kernel_rfl) Tryd.func6
    (ChangeSpec.witness_shaped (enc := enc) (C := Tryd.checked) (os := os) (X := fun w _ => laidMetH Tryd.prog scrLaid w) false (World.laidAll Tryd.prog os scrLaid) #[.slice none 0 0] 8 (World.laidAll_os _ _ _)
      (World.shaped_of_ZipB (by kernel_rfl) (by kernel_rfl)) (by kernel_rfl) (by kernel_rfl) (by kernel_rfl)
      (by rw [MakeChecks.laidMetH_plain _ _ _ (by kernel_rfl)]; exact laidMet_laidAll _ (by kernel_rfl) (by kernel_rfl))) ?_
  intro W base args ds gs before hval0 hW _ hsz0 hL hS _
  have hval : ∀ (j : Nat) t v, Tryd.f6.params[j]? = some t → args[j]? = some v → Value.okWide Tryd.prog W .any base t v := hval0
  have hsz : (DataW.weightsEach Tryd.prog (Tryd.f6.params.toList ++ Rows.scriptBytesSpec.plain.varTypes Tryd.prog) (ds ++ gs)).all (· ≤ reachBytes) = true := hsz0
  have hW' := hW
  have hT := stabs_of hL hS
  obtain ⟨p, q, hA0, hV, rfl, _, _⟩ := hW
  have hA : DataW.TrodAll enc Tryd.prog W 0 (fun _ => true) true Tryd.f6.params.toList args.toList ds p := hA0
  rw [Tryd.params6] at hA hval hsz
  obtain ⟨v0, vs0, d0, ds0, p0, q0, hargs, rfl, rfl, h0, r0⟩ := trodAll_cons hA
  obtain ⟨rfl, rfl, rfl⟩ := trodAll_nil r0
  obtain rfl : args = #[v0] := by cases args; simp_all
  obtain ⟨rfl, rfl⟩ := trodVars_none hV
  have lt0 : ∀ x ∈ p0, x.block < W.heap.size := by obtain ⟨m, hm⟩ := h0; exact DataW.trod_lt m _ _ _ hm
  have o0 := op_of hsz (j := 0) rfl rfl h0
  refine (ScriptBytes_walk v0 W (hval 0 _ v0 rfl rfl) o0 hT).mono fun e W' ⟨he, bel⟩ => ?_
  subst he
  exact ⟨_, rfl, _, _, _, [], _, [], hW', trodAll_mk1 (shut_bool Tryd.underlying4 _), (trodAll_cons_mk (Below.trod (by kernel_rfl) (by kernel_rfl) (of_decide_eq_true (by kernel_rfl)) h0 bel lt0) trodAll_mk0), rfl, bel.frame _, fun h => by cases h⟩

/-- The row's statement. -/
theorem ScriptBytes_row : Rows.ScriptBytesSaid :=
  OpenClaim.holds_of_wide 6 Tryd.f6 rfl rfl rfl rfl rfl rfl rfl ⟨rfl, rfl, rfl, rfl, rfl⟩ rfl rfl rfl rfl rfl (by kernel_rfl) Tryd.func6 (by kernel_rfl)
    (of_decide_eq_true (by kernel_rfl)) (by unfold Func.isWrapper; rw [if_neg (of_decide_eq_false (by kernel_rfl))]; exact ⟨rfl, rfl⟩)
    (fun os started H enc _ => ScriptBytes_lifted os started H enc)
/-- The card. -/
theorem ScriptBytes_holds : Rows.ScriptBytesCardSaid :=
  Claim7.holds_tied_plain_at .later [] [.data, .data, .data, .data, .pinned] true Rows.scriptBytesCard.stood.harness false
    ScriptBytes_row (fun _ h => by cases h) (by kernel_rfl) (fun _ h => by cases h) scriptBytes_row_tie rfl ⟨rfl, rfl⟩ (by kernel_rfl) rfl
    (fun f fn hf hfn => by
      obtain rfl : f = 6 := Option.some.inj ((show Tryd.prog.funcNamed "exchequer/exchequerlaw25.ScriptBytes" = some 6 by kernel_rfl).symm.trans hf) |>.symm
      obtain rfl : fn = Tryd.f6 := (Option.some.inj (Tryd.func6.symm.trans hfn)).symm
      exact ⟨by kernel_rfl, fun j t ht => by
        rw [Tryd.params6] at ht
        have hm : t ∈ [33] := by simpa using Array.mem_of_getElem? ht
        have hall : ([33].all fun u => !Tryd.prog.wantsStandIn u) = true := by kernel_rfl
        exact (show Tryd.prog.wantsStandIn t = false by simpa using List.all_eq_true.1 hall t hm)⟩)
    (by kernel_rfl)
#print axioms ScriptBytes_holds
end Go.Proofs.YtnklfcejdkpjfaaDoor
