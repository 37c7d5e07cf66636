/-
  ScriptReads: any bytes are the events that the reference says. The row lists tables of the library as Go lays them. No condition beyond the row's.
-/
import Derived.Test.YtnklfcejdkpjfaaDoorScrD
namespace Go.Proofs.YtnklfcejdkpjfaaDoor
open Go.RowKit Go.ChangeShapes Go.WideShapes Go.ChangeAt
set_option linter.unusedSimpArgs false
set_option linter.unusedVariables false
set_option maxRecDepth 100000

theorem bv_flat (l : List UInt8) : l.flatMap (fun c : UInt8 => [bv c]) = l.map bv := by
  induction l with
  | nil => rfl
  | cons c l ih => rw [List.flatMap_cons, ih, List.map_cons]; rfl
theorem bytes_in {w : World} {v : Value} {b : Nat} (hv : Value.okWide Tryd.prog w .any b 31 v) (h : Op Tryd.prog w 31 v.cells.toList) :
    ∃ (l : List UInt8) (a : Option Addr) (cap : Nat), v = .slice a l.length cap ∧ Rd w 1 a l.length (l.map bv) ∧ l.length ≤ cap ∧ l.length ≤ 9223372036854775807 := by
  obtain ⟨a, n, cap, rfl⟩ := okWide_slice Tryd.underlying31 hv
  obtain ⟨a', n', cap', e, g1, g2, g3, g4⟩ := h.slice Tryd.underlying31 (sz := 1) (by kernel_rfl)
  simp [Value.cells] at e
  obtain ⟨rfl, rfl, rfl⟩ := e
  obtain ⟨ts, hts, hrd, -⟩ := rd_of (w := w) (fun c : UInt8 => [bv c]) 1 (by omega) (fun _ => rfl) (fun _ => True) (n := n) (a := a) (fun i hi => by
    obtain ⟨cs', hl', hc, ho⟩ := g4 i hi
    obtain ⟨x, hx, w0⟩ := ho.int Tryd.underlying5
    subst hx
    simp [Lit.wf, IntKind.min, IntKind.max, IntKind.signed, IntKind.bits] at w0
    refine ⟨UInt8.ofNat x.toNat, ?_, trivial⟩
    obtain ⟨ad, e1, e2⟩ := hc
    refine ⟨ad, e1, fun j hj => ?_⟩
    rw [e2 j hj]
    congr 2
    simp only [bv]
    rw [UInt8.toNat_ofNat_of_lt' (by simp [UInt8.size]; omega), Int.toNat_of_nonneg (by omega)])
  subst hts
  refine ⟨ts, a, cap, rfl, ?_, g1, by unfold maxLen at g2; omega⟩
  rwa [bv_flat] at hrd
set_option maxHeartbeats 4000000 in
theorem reads_any (bs : List UInt8) (a : Option Addr) (cap : Nat) (w : World) (hT : STabs w) (hr : Rd w 1 a bs.length (bs.map bv)) (hc : bs.length ≤ cap) (hl : bs.length ≤ 9223372036854775807) : Calls Tryd.prog 5 #[.slice a bs.length cap] w fun e w' => e = .returned (.bool true) ∧ Step [] [] w w' := by
  have HTT := Lib.hid hT
  have HR := Lib.hid hr
  clear hT hr
  go_enter Tryd.func5, Tryd.ntmps5
  go_wp2_with fail
  refine (awake25_true w HTT.out).mono ?_
  rintro e w1 ⟨rfl, k1⟩
  have H1 := Lib.hid k1
  clear k1
  by_cases hg : 10000 < bs.length
  · have hgd : decide (10000 < bs.length) = true := decide_eq_true hg
    have hgi : decide ((10000 : Int) < (bs.length : Int)) = true := decide_eq_true (by omega)
    clear hg
    go_wp2_with fail
    exact bodyPost_ret (results_tmp rfl _ _ _) rfl ⟨rfl, H1.out⟩
  · have hgd : decide (10000 < bs.length) = false := decide_eq_false hg
    have hgi : decide ((10000 : Int) < (bs.length : Int)) = false := decide_eq_false (by omega)
    have HL := Lib.hid (show bs.length ≤ 10000 by omega)
    clear hg
    go_wp2_with fail
    refine (decode_any bs a cap w1 (HR.out.step0 H1.out) hc (by have := HL.out; omega)).mono ?_
    rintro e w2 ⟨oa, oc, rfl, h2, k2⟩
    have H2 := Lib.hid (And.intro h2 (H1.out.trans k2))
    clear h2 k2 H1
    go_wp2_with fail
    refine (refDecode_any bs a cap w2 (HR.out.step0 H2.out.2) (by have := HL.out; omega)).mono ?_
    rintro e w3 ⟨pa, pc, rfl, h3, k3⟩
    have H3 := Lib.hid (And.intro (H2.out.1.step0 k3) (And.intro h3 (H2.out.2.trans k3)))
    clear h3 k3 H2
    have hN : cntE bs = (evsN bs (cntE bs)).length := (evsN_len bs _).symm
    have hN4 : cntE bs ≤ 400 := by unfold cntE; omega
    obtain ⟨l, hl⟩ : ∃ l, l = evsN bs (cntE bs) := ⟨_, rfl⟩
    rw [← hl] at hN H3
    have hl4 : l.length ≤ 1000000 := by omega
    rw [hN] at H3 ⊢
    clear hN hN4 hl
    go_wp2_with fail
    refine (sameOps_any l oa pa oc pc w3 H3.out.1 H3.out.2.1 hl4).mono ?_
    rintro e w4 ⟨rfl, k4⟩
    have H4 := Lib.hid (H3.out.2.2.trans k4)
    clear k4 H3
    go_wp2_with fail
    exact bodyPost_ret (results_tmp rfl _ _ _) rfl ⟨rfl, H4.out⟩
theorem ScriptReads_walk (v0 : Value) (w : World) {b0 : Nat} (h0 : Value.okWide Tryd.prog w .any b0 31 v0) (o0 : Op Tryd.prog w 31 v0.cells.toList) (hT : STabs w) :
    Calls Tryd.prog 5 #[v0] w fun e w' => e = .returned (.bool true) ∧ Below w.heap.size w w' := by
  obtain ⟨l, a, cap, rfl, hr, hc, hl⟩ := bytes_in h0 o0
  exact (reads_any l a cap w hT hr hc hl).mono fun e w' ⟨h1, h2⟩ => ⟨h1, h2.below0⟩

set_option maxRecDepth 100000 in
theorem ScriptReads_lifted (os : Os) (started : os.Started) (H : Type) (enc : TypeId × Value → H) :
    ReturnsInHanded {} Tryd.checked os 5 .any (fun w args => (Rows.scriptReadsSpec.pre enc Tryd.prog Tryd.f5 [] false w args ∧ laidMetH Tryd.prog scrLaid w) ∧ sizedMet enc Tryd.prog Tryd.f5 (OpenSpec.ofChange Rows.scriptReadsSpec) false w args)
      (Rows.scriptReadsSpec.post enc Tryd.prog Tryd.f5 false true false false) := by
  refine returnsInHanded_of_change_tabs (C := Tryd.checked) (X := fun w _ => laidMetH Tryd.prog scrLaid w) (fun _ _ _ hh h => h.of_heap hh) (by kernel_rfl) started (by kernel_rfl) Tryd.func5
    (ChangeSpec.witness_shaped (enc := enc) (C := Tryd.checked) (os := os) (X := fun w _ => laidMetH Tryd.prog scrLaid w) false (World.laidAll Tryd.prog os scrLaid) #[.slice none 0 0] 8 (World.laidAll_os _ _ _)
      (World.shaped_of_ZipB (by kernel_rfl) (by kernel_rfl)) (by kernel_rfl) (by kernel_rfl) (by kernel_rfl)
      (by rw [MakeChecks.laidMetH_plain _ _ _ (by kernel_rfl)]; exact laidMet_laidAll _ (by kernel_rfl) (by kernel_rfl))) ?_
  intro W base args ds gs before hval0 hW _ hsz0 hL hS _
  have hval : ∀ (j : Nat) t v, Tryd.f5.params[j]? = some t → args[j]? = some v → Value.okWide Tryd.prog W .any base t v := hval0
  have hsz : (DataW.weightsEach Tryd.prog (Tryd.f5.params.toList ++ Rows.scriptReadsSpec.plain.varTypes Tryd.prog) (ds ++ gs)).all (· ≤ reachBytes) = true := hsz0
  have hW' := hW
  have hT := stabs_of hL hS
  obtain ⟨p, q, hA0, hV, rfl, _, _⟩ := hW
  have hA : DataW.TrodAll enc Tryd.prog W 0 (fun _ => true) true Tryd.f5.params.toList args.toList ds p := hA0
  rw [Tryd.params5] at hA hval hsz
  obtain ⟨v0, vs0, d0, ds0, p0, q0, hargs, rfl, rfl, h0, r0⟩ := trodAll_cons hA
  obtain ⟨rfl, rfl, rfl⟩ := trodAll_nil r0
  obtain rfl : args = #[v0] := by cases args; simp_all
  obtain ⟨rfl, rfl⟩ := trodVars_none hV
  have lt0 : ∀ x ∈ p0, x.block < W.heap.size := by obtain ⟨m, hm⟩ := h0; exact DataW.trod_lt m _ _ _ hm
  have o0 := op_of hsz (j := 0) rfl rfl h0
  refine (ScriptReads_walk v0 W (hval 0 _ v0 rfl rfl) o0 hT).mono fun e W' ⟨he, bel⟩ => ?_
  subst he
  exact ⟨_, rfl, _, _, _, [], _, [], hW', trodAll_mk1 (shut_bool Tryd.underlying4 _), (trodAll_cons_mk (Below.trod (by kernel_rfl) (by kernel_rfl) (of_decide_eq_true (by kernel_rfl)) h0 bel lt0) trodAll_mk0), rfl, bel.frame _, fun h => by cases h⟩

/-- The row's statement. -/
theorem ScriptReads_row : Rows.ScriptReadsSaid :=
  OpenClaim.holds_of_wide 5 Tryd.f5 rfl rfl rfl rfl rfl rfl rfl ⟨rfl, rfl, rfl, rfl, rfl⟩ rfl rfl rfl rfl rfl (by kernel_rfl) Tryd.func5 (by kernel_rfl)
    (of_decide_eq_true (by kernel_rfl)) (by unfold Func.isWrapper; rw [if_neg (of_decide_eq_false (by kernel_rfl))]; exact ⟨rfl, rfl⟩)
    (fun os started H enc _ => ScriptReads_lifted os started H enc)
/-- The card. -/
theorem ScriptReads_holds : Rows.ScriptReadsCardSaid :=
  Claim7.holds_tied_plain_at .later [] [.data, .data, .data, .data, .pinned] true Rows.scriptReadsCard.stood.harness false
    ScriptReads_row (fun _ h => by cases h) (by kernel_rfl) (fun _ h => by cases h) scriptReads_row_tie rfl ⟨rfl, rfl⟩ (by kernel_rfl) rfl
    (fun f fn hf hfn => by
      obtain rfl : f = 5 := Option.some.inj ((show Tryd.prog.funcNamed "exchequer/exchequerlaw25.ScriptReads" = some 5 by kernel_rfl).symm.trans hf) |>.symm
      obtain rfl : fn = Tryd.f5 := (Option.some.inj (Tryd.func5.symm.trans hfn)).symm
      exact ⟨by kernel_rfl, fun j t ht => by
        rw [Tryd.params5] at ht
        have hm : t ∈ [31] := by simpa using Array.mem_of_getElem? ht
        have hall : ([31].all fun u => !Tryd.prog.wantsStandIn u) = true := by kernel_rfl
        exact (show Tryd.prog.wantsStandIn t = false by simpa using List.all_eq_true.1 hall t hm)⟩)
    (by kernel_rfl)
#print axioms ScriptReads_holds
end Go.Proofs.YtnklfcejdkpjfaaDoor
