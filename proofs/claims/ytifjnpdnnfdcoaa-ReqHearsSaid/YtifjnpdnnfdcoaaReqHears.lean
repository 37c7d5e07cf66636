/-
  ReqHears: any bytes are those of the answer that the document says, which has just these, or of none, up to 20,000 bytes. No condition beyond the row's.
-/
import Derived.Test.YtifjnpdnnfdcoaaReqS
import Derived.Test.YtifjnpdnnfdcoaaAnsRead
import Derived.Test.YtifjnpdnnfdcoaaAnsSame
import Derived.Test.YtifjnpdnnfdcoaaOpen
import Derived.Test.YtifjnpdnnfdcoaaRows
namespace Go.Proofs.Ytifjnpdnnfdcoaa
open Go.RowKit Go.Lib Go.ChangeShapes Go.WideShapes Go.ChangeAt
set_option linter.unusedSimpArgs false
set_option linter.unusedVariables false
set_option maxRecDepth 100000

theorem strh_in {w : World} {b : Nat} {v : Value} (hv : Value.okWide Try.prog w .any b 9 v) (h : Op Try.prog w 9 v.cells.toList) : ∃ l : List UInt8, v = Str l ∧ l.length ≤ 140737488351232 := by
  obtain ⟨s, rfl⟩ := okWide_string Try.underlying9 hv
  obtain ⟨l, e, hl⟩ := h.str Try.underlying9
  refine ⟨l, ?_, hl⟩
  have := congrArg List.head? e
  simpa [Value.cells] using this
theorem refA_yes {s : List UInt8} {x : An} (hs : s.length ≤ 20000) (h : decA s = some x) : readA stopR mostN ⟨s, false⟩ = (x, ⟨[], false⟩) ∧ refAB x = (s, 0) ∧ encA x = (s, 0) ∧ rend (⟨[], false⟩ : RS) = 0 ∧ SmA x := by
  obtain ⟨g3, g4⟩ := decA_some h
  have e := encA_right g3
  rw [← g4] at e
  have hb := readA_back (stop := stopR) stopR_ne (m := mostN) (by simp [mostN]) x [] g3
  rw [List.append_nil, ← g4] at hb
  have sm := readA_small mostN s hs
  rw [hb] at sm
  exact ⟨hb, by rw [refAB_enc x sm.ln]; exact e, e, rfl, sm⟩
theorem refA_no {s : List UInt8} (hs : s.length ≤ 20000) (h : decA s = none) : ¬ (rend (readA stopR mostN ⟨s, false⟩).2 = 0 ∧ refAB (readA stopR mostN ⟨s, false⟩).1 = (s, 0)) := by
  rintro ⟨h1, h2⟩
  rw [refAB_enc _ (readA_small mostN s hs).ln] at h2
  obtain ⟨r1, r2⟩ := encA_some h2
  have := decA_right r1
  rw [← r2, h] at this
  cases this
set_option maxHeartbeats 8000000 in
theorem hears20_any (s : List UInt8) (w : World) (hs : s.length ≤ 140737488351232) :
    Calls Try.prog 9 #[Str s] w fun e w' => e = .returned (.bool true) ∧ Step [] [] w w' := by
  go_enter Try.func9, Try.ntmps9
  go_wp2_with fail
  refine (awake20_true _).mono ?_
  rintro e w1 ⟨rfl, k1⟩
  have H1 := Lib.hid k1
  clear k1
  by_cases hg : (20000 : Int) < s.length
  · have hgd : decide ((20000 : Int) < s.length) = true := decide_eq_true hg
    clear hg
    go_wp2_with fail
    exact bodyPost_ret (results_tmp rfl _ _ _) rfl ⟨rfl, H1.out⟩
  · have hgd : decide ((20000 : Int) < s.length) = false := decide_eq_false hg
    have HL0 : Hid (s.length ≤ 20000) := Lib.hid (by omega)
    clear hg
    go_wp2_with fail
    refine (decodeA_any s w1 (by have := HL0.out; omega)).mono ?_
    rintro e w2 ⟨k2, h2⟩
    have H2 := Lib.hid (H1.out.trans k2)
    clear k2 H1 hgd
    rcases h2 with ⟨x, m, a, c, hx, rfl, hm, hr⟩ | ⟨hx, rfl⟩
    · skip
      have HR := Lib.hid (refA_yes HL0.out hx)
      have HM := Lib.hid (And.intro hm hr)
      clear hx hm hr
      have HN : Hid (Blk (w2.alloc (.cells anZ7 64)) w2.heap.size 64 anZ7) := Lib.hid (Blk.new w2 _ _)
      go_upto_region 6 with (refine wpList_storeRow (T := 64) (b := w2.heap.size) (T' := 64) (cs := anZ7) (vs := (anc x (.slice a m.length c)).toArray) rfl (.tmp 3) (.tmp 17) rfl rfl rfl Try.sAns HN.out rfl (anc_one _ _ rfl) ?_; intro U hU ss)
      have kk : Step [] [] w2 U := ((Step.refl [] w2).alloc _).out1' ss (by simp)
      obtain ⟨b3, hb⟩ : ∃ b, b = w2.heap.size := ⟨_, rfl⟩
      rw [← hb] at hU ⊢
      obtain ⟨V3, hUU⟩ : ∃ V, V = U := ⟨_, rfl⟩
      rw [← hUU] at hU kk ⊢
      clear ss HN hb hUU
      have H3 : Hid (Step [] [] w V3 ∧ Blk V3 b3 64 (anc x (.slice a m.length c)).toArray ∧ RdO V3 a m) := Lib.hid ⟨H2.out.trans kk, hU, HM.out.2.step kk⟩
      clear kk hU
      go_wp2_with fail
      refine (refReadA_any s V3 HL0.out).mono ?_
      rintro e w4 ⟨k4, h4⟩
      rw [HR.out.1] at h4
      rcases h4 with ⟨_, _, m5, a5, c5, rfl, hm5, hr5⟩ | ⟨hno, _⟩
      · skip
        have H4 : Hid (Step [] [] w w4 ∧ Blk w4 b3 64 (anc x (.slice a m.length c)).toArray ∧ RdO w4 a m ∧ RdO w4 a5 m5 ∧ m5.map (·.o) = x.outs) := Lib.hid ⟨H3.out.1.trans k4, H3.out.2.1.step k4 (by simp), H3.out.2.2.step k4, hr5, hm5⟩
        clear k4 hr5 hm5 H3
        have HN : Hid (Blk (w4.alloc (.cells anZ7 64)) w4.heap.size 64 anZ7) := Lib.hid (Blk.new w4 _ _)
        go_upto_region 7 with (refine wpList_storeRow (T := 64) (b := w4.heap.size) (T' := 64) (cs := anZ7) (vs := (anc x (.slice a5 m5.length c5)).toArray) rfl (.tmp 5) (.tmp 22) rfl rfl rfl Try.sAns HN.out rfl (anc_one _ _ rfl) ?_; intro U hU ss)
        have kk : Step [] [] w4 U := ((Step.refl [] w4).alloc _).out1' ss (by simp)
        obtain ⟨b5, hb⟩ : ∃ b, b = w4.heap.size := ⟨_, rfl⟩
        rw [← hb] at hU ⊢
        obtain ⟨V5, hUU⟩ : ∃ V, V = U := ⟨_, rfl⟩
        rw [← hUU] at hU kk ⊢
        clear ss HN hb hUU
        have HZ : Hid (Step [] [] w V5 ∧ Blk V5 b3 64 (anc x (.slice a m.length c)).toArray ∧ Blk V5 b5 64 (anc x (.slice a5 m5.length c5)).toArray ∧ RdO V5 a m ∧ RdO V5 a5 m5 ∧ m5.map (·.o) = x.outs) := Lib.hid ⟨H4.out.1.trans kk, H4.out.2.1.step kk (by simp), hU, H4.out.2.2.1.step kk, H4.out.2.2.2.1.step kk, H4.out.2.2.2.2⟩
        clear kk hU H4
        go_wp2_with (first | (refine wpList_loadRow (T := 64) (b := b3) (T' := 64) (cs := (anc x (.slice a m.length c)).toArray) rfl (.tmp 3) rfl rfl Try.sAns HZ.out.2.1 ?_) | (refine wpList_loadRow (T := 64) (b := b5) (T' := 64) (cs := (anc x (.slice a5 m5.length c5)).toArray) rfl (.tmp 5) rfl rfl Try.sAns HZ.out.2.2.1 ?_))
        refine (encodeA_any x m a c V5 HZ.out.2.2.2.1 HM.out.1 HR.out.2.2.2.2.bd HR.out.2.2.2.2.ln HR.out.2.2.2.2.nn).mono ?_
        rintro e V7 ⟨rfl, k7⟩
        rw [HR.out.2.2.1]
        have HY : Hid (Step [] [] w V7 ∧ Blk V7 b3 64 (anc x (.slice a m.length c)).toArray ∧ Blk V7 b5 64 (anc x (.slice a5 m5.length c5)).toArray ∧ RdO V7 a m ∧ RdO V7 a5 m5 ∧ m5.map (·.o) = x.outs) := Lib.hid ⟨HZ.out.1.trans k7, HZ.out.2.1.step k7 (by simp), HZ.out.2.2.1.step k7 (by simp), HZ.out.2.2.2.1.step k7, HZ.out.2.2.2.2.1.step k7, HZ.out.2.2.2.2.2⟩
        clear k7 HZ
        have HZ := HY
        clear HY
        have HLN : Hid (m.length ≤ 2097152 ∧ ∀ d ∈ m, d.o.pairs.length ≤ 2097152) := Lib.hid ⟨by have h1 := HR.out.2.2.2.2.ln.o; rw [← HM.out.1, List.length_map] at h1; exact h1, fun d hd => HR.out.2.2.2.2.ln.p _ (by rw [← HM.out.1]; exact List.mem_map.2 ⟨d, hd, rfl⟩)⟩
        have fc := HZ.out.2.1.cell
        have f0 := fc 0
        have f1 := fc 1
        have f2 := fc 2
        have f3 := fc 3
        have f4 := fc 4
        have f5 := fc 5
        have f6 := fc 6
        clear fc
        simp only [anc, List.getElem?_toArray, List.getElem?_cons_zero, List.getElem?_cons_succ] at f0 f1 f2 f3 f4 f5 f6
        have fl := HZ.out.2.1.lt
        have gc := HZ.out.2.2.1.cell
        have g0 := gc 0
        have g1 := gc 1
        have g2 := gc 2
        have g3 := gc 3
        have g4 := gc 4
        have g5 := gc 5
        have g6 := gc 6
        clear gc
        simp only [anc, List.getElem?_toArray, List.getElem?_cons_zero, List.getElem?_cons_succ] at g0 g1 g2 g3 g4 g5 g6
        have gl := HZ.out.2.2.1.lt
        go_wp2_with fail
        refine (sameA_any x m m5 a a5 c c5 V7 HZ.out.2.2.2.1 HZ.out.2.2.2.2.1 (by rw [HM.out.1, HZ.out.2.2.2.2.2]) HLN.out.1 HLN.out.2).mono ?_
        rintro e V8 ⟨rfl, k8⟩
        have H9 := Lib.hid (HZ.out.1.trans k8)
        clear k8
        go_wp2_with fail
        exact bodyPost_ret (results_tmp rfl _ _ _) rfl ⟨rfl, H9.out⟩
      · exact absurd ⟨HR.out.2.2.2.1, HR.out.2.1⟩ hno
    · skip
      have HR := Lib.hid (refA_no HL0.out hx)
      clear hx
      have HN : Hid (Blk (w2.alloc (.cells anZ7 64)) w2.heap.size 64 anZ7) := Lib.hid (Blk.new w2 _ _)
      go_upto_region 6 with (refine wpList_storeRow (T := 64) (b := w2.heap.size) (T' := 64) (cs := anZ7) (vs := anZ7) rfl (.tmp 3) (.tmp 17) rfl rfl rfl Try.sAns HN.out rfl anZ7_one ?_; intro U hU ss)
      have kk : Step [] [] w2 U := ((Step.refl [] w2).alloc _).out1' ss (by simp)
      obtain ⟨b3, hb⟩ : ∃ b, b = w2.heap.size := ⟨_, rfl⟩
      rw [← hb] at hU ⊢
      obtain ⟨V3, hUU⟩ : ∃ V, V = U := ⟨_, rfl⟩
      rw [← hUU] at hU kk ⊢
      clear ss HN hb hUU
      have H3 : Hid (Step [] [] w V3 ∧ Blk V3 b3 64 anZ7) := Lib.hid ⟨H2.out.trans kk, hU⟩
      clear kk hU
      go_wp2_with fail
      refine (refReadA_any s V3 HL0.out).mono ?_
      rintro e w4 ⟨k4, h4⟩
      rcases h4 with ⟨h41, h42, _⟩ | ⟨_, rfl⟩
      · exact absurd ⟨h41, h42⟩ HR.out
      · skip
        have H4 : Hid (Step [] [] w w4 ∧ Blk w4 b3 64 anZ7) := Lib.hid ⟨H3.out.1.trans k4, H3.out.2.step k4 (by simp)⟩
        clear k4 H3
        have HN : Hid (Blk (w4.alloc (.cells anZ7 64)) w4.heap.size 64 anZ7) := Lib.hid (Blk.new w4 _ _)
        go_upto_region 7 with (refine wpList_storeRow (T := 64) (b := w4.heap.size) (T' := 64) (cs := anZ7) (vs := anZ7) rfl (.tmp 5) (.tmp 22) rfl rfl rfl Try.sAns HN.out rfl anZ7_one ?_; intro U hU ss)
        have kk : Step [] [] w4 U := ((Step.refl [] w4).alloc _).out1' ss (by simp)
        obtain ⟨b5, hb⟩ : ∃ b, b = w4.heap.size := ⟨_, rfl⟩
        rw [← hb] at hU ⊢
        obtain ⟨V5, hUU⟩ : ∃ V, V = U := ⟨_, rfl⟩
        rw [← hUU] at hU kk ⊢
        clear ss HN hb hUU
        have H5 : Hid (Step [] [] w V5 ∧ Blk V5 b3 64 anZ7) := Lib.hid ⟨H4.out.1.trans kk, H4.out.2.step kk (by simp)⟩
        clear hU kk H4
        have fc := H5.out.2.cell
        have f0 := fc 0
        have f5 := fc 5
        clear fc
        simp only [List.getElem?_toArray, List.getElem?_cons_zero, List.getElem?_cons_succ] at f0 f5
        have fl := H5.out.2.lt
        go_wp2_with fail
        exact bodyPost_ret (results_tmp rfl _ _ _) rfl ⟨rfl, H5.out.1⟩

theorem ReqHears_walk (v0 : Value) (w : World) {b : Nat} (h0 : Value.okWide Try.prog w .any b 9 v0) (o0 : Op Try.prog w 9 v0.cells.toList) :
    Calls Try.prog 9 #[v0] w fun e w' => e = .returned (.bool true) ∧ Below w.heap.size w w' := by
  obtain ⟨s, rfl, hs⟩ := strh_in h0 o0
  exact (hears20_any s w hs).mono fun e w' ⟨h1, h2⟩ => ⟨h1, h2.below0⟩
set_option maxRecDepth 100000 in
theorem ReqHears_lifted (os : Os) (started : os.Started) (H : Type) (enc : TypeId × Value → H) :
    ReturnsInHanded {} Try.checked os 9 .any (Rows.reqHearsSpec.pre6 enc Try.prog Try.f9 Rows.reqHearsRow.domain false) (Rows.reqHearsSpec.post enc Try.prog Try.f9 false true false false) := by
  refine returnsInHanded_of_change_sized (C := Try.checked) (by kernel_rfl) started (by kernel_rfl) Try.func9
    (ChangeSpec.witness6 (enc := enc) (C := Try.checked) false ⟨#[], #[.string ⟨#[]⟩], []⟩ 8 (by kernel_rfl) (by kernel_rfl) (by kernel_rfl) (by kernel_rfl)) ?_
  intro W base args ds gs before hval0 hW hcnd hsz0 _
  have hval : ∀ (j : Nat) t v, Try.f9.params[j]? = some t → args[j]? = some v → Value.okWide Try.prog W .any base t v := hval0
  have hsz : (DataW.weightsEach Try.prog (Try.f9.params.toList ++ Rows.reqHearsSpec.plain.varTypes Try.prog) (ds ++ gs)).all (· ≤ reachBytes) = true := hsz0
  have hW' := hW
  obtain ⟨p, q, hA0, hV, rfl, hfz, hnd⟩ := hW
  have hA : DataW.TrodAll enc Try.prog W 0 (fun _ => true) true Try.f9.params.toList args.toList ds p := hA0
  rw [Try.params9] at hA hval hsz
  obtain ⟨v0, vs0, d0, ds0, p0, q0, hargs, rfl, rfl, h0, r0⟩ := trodAll_cons hA
  obtain ⟨rfl, rfl, rfl⟩ := trodAll_nil r0
  obtain rfl : args = #[v0] := by cases args; simp_all
  obtain ⟨rfl, rfl⟩ := trodVars_none hV
  have lt0 : ∀ x ∈ p0, x.block < W.heap.size := by obtain ⟨m, hm⟩ := h0; exact DataW.trod_lt m _ _ _ hm
  have o0 := op_of hsz (j := 0) rfl rfl h0
  refine (ReqHears_walk v0 W (hval 0 _ v0 rfl rfl) o0).mono fun e W' ⟨he, bel⟩ => ?_
  subst he
  exact ⟨_, rfl, _, _, _, [], _, [], hW', trodAll_mk1 (shut_bool Try.underlying4 _), (trodAll_cons_mk (Below.trod (by kernel_rfl) (by kernel_rfl) (of_decide_eq_true (by kernel_rfl)) h0 bel lt0) trodAll_mk0), rfl, bel.frame _, fun h => by cases h⟩

/-- The statement. -/
theorem ReqHears_holds : Rows.ReqHearsSaid :=
  OpenClaim.holds_of_wide 9 Try.f9 rfl rfl rfl rfl rfl rfl rfl ⟨rfl, rfl, rfl, rfl, rfl⟩ rfl rfl rfl rfl rfl (by kernel_rfl) Try.func9 (by kernel_rfl)
    (of_decide_eq_true (by kernel_rfl)) (by unfold Func.isWrapper; rw [if_neg (of_decide_eq_false (by kernel_rfl))]; exact ⟨rfl, rfl⟩)
    (fun os started H enc _ => ReqHears_lifted os started H enc)
#print axioms ReqHears_holds
end Go.Proofs.Ytifjnpdnnfdcoaa
