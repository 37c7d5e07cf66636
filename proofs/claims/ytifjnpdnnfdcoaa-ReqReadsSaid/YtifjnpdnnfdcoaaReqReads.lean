/-
  ReqReads: any bytes are those of the request that the document says, which has just these, or of none, up to 20,000 bytes. No condition beyond the row's.
-/
import Derived.Test.YtifjnpdnnfdcoaaReqS
import Derived.Test.YtifjnpdnnfdcoaaReqReadW
import Derived.Test.YtifjnpdnnfdcoaaReqP
import Derived.Test.YtifjnpdnnfdcoaaOpen
import Derived.Test.YtifjnpdnnfdcoaaReqPlain6
import Derived.Test.YtifjnpdnnfdcoaaRows
namespace Go.Proofs.Ytifjnpdnnfdcoaa
open Go.RowKit Go.Lib Go.ChangeShapes Go.WideShapes Go.ChangeAt
set_option linter.unusedSimpArgs false
set_option linter.unusedVariables false
set_option maxRecDepth 100000

theorem strr_in {w : World} {b : Nat} {v : Value} (hv : Value.okWide Try.prog w .any b 9 v) (h : Op Try.prog w 9 v.cells.toList) : ∃ l : List UInt8, v = Str l ∧ l.length ≤ 140737488351232 := by
  obtain ⟨s, rfl⟩ := okWide_string Try.underlying9 hv
  obtain ⟨l, e, hl⟩ := h.str Try.underlying9
  refine ⟨l, ?_, hl⟩
  have := congrArg List.head? e
  simpa [Value.cells] using this
theorem refC_yes {s : List UInt8} {y : Cm} (h : decC s = some y) : refC ⟨s, false⟩ = (y, ⟨[], false⟩) ∧ refBq y = (s, 0) ∧ encC y = (s, 0) ∧ rend (⟨[], false⟩ : RS) = 0 := by
  obtain ⟨g1, g2, g3, g4⟩ := decC_some h
  have e := encC_right y g1 g2 g3
  rw [← g4] at e
  have b := right_of g3
  refine ⟨by rw [g4]; exact refC_back y g1 g2 g3, ?_, e, rfl⟩
  rw [refBq, if_pos g1, g2, refB_enc y g1 g2 (lenS_of g1 g2 b.2.2.2), e]
theorem refC_no {s : List UInt8} (hs : s.length ≤ 20000) (h : decC s = none) : ¬ (rend (refC ⟨s, false⟩).2 = 0 ∧ refBq (refC ⟨s, false⟩).1 = (s, 0)) := by
  rintro ⟨h1, h2⟩
  obtain ⟨b1, b2, b3⟩ := refC_bound s hs
  obtain ⟨x, hx⟩ : ∃ x, x = (refC ⟨s, false⟩).1 := ⟨_, rfl⟩
  rw [← hx] at h2 b1 b2
  unfold refBq at h2
  split at h2
  · rename_i hk
    have k2 := clean_twice hk
    have k1 : isK (cleanC x).kind = true := by rw [clean_kind hk]; exact hk
    rw [refB_enc _ k1 k2 b2.clean] at h2
    obtain ⟨r1, r2⟩ := encC_some _ _ h2
    have := decC_right k1 k2 r1
    rw [← r2, h] at this
    cases this
  · injection h2 with _ h3
    cases h3
set_option maxHeartbeats 8000000 in
theorem reads20_any (s : List UInt8) (w : World) (hs : s.length ≤ 140737488351232) :
    Calls Try.prog 4 #[Str s] w fun e w' => e = .returned (.bool true) ∧ Step [] [] w w' := by
  go_enter Try.func4, Try.ntmps4
  go_wp2_with fail
  refine (awake20_true _).mono ?_
  rintro e w1 ⟨rfl, k1⟩
  have H1 := Lib.hid k1
  clear k1
  by_cases hg : (20000 : Int) < s.length
  · have hgd : decide ((20000 : Int) < s.length) = true := decide_eq_true hg
    clear hg
    go_wp2_with fail
    exact bodyPost_ret (results_tmp rfl _ _ _) rfl ⟨rfl, H1.out⟩
  · have hgd : decide ((20000 : Int) < s.length) = false := decide_eq_false hg
    have HL0 : Hid (s.length ≤ 20000) := Lib.hid (by omega)
    clear hg
    go_wp2_with fail
    refine (decodeQ_any s w1 (by have := HL0.out; omega)).mono ?_
    rintro e w2 ⟨h2, k2⟩
    have H2 := Lib.hid (H1.out.trans k2)
    clear k2 H1 hgd
    rcases h2 with ⟨y, m, hy, rfl, hm⟩ | ⟨hy, rfl⟩
    · skip
      have HR := Lib.hid (refC_yes hy)
      have HD0 := Lib.hid hm
      have HYB : Hid (CmB y ∧ LenS y) := Lib.hid (by have hb := refC_bound s HL0.out; rw [HR.out.1] at hb; exact ⟨hb.1, hb.2.1⟩)
      have HLY2 : Hid (LenC y) := Lib.hid hm.len
      obtain ⟨T, u, hv⟩ := hm.shape
      subst hv
      clear hm hy
      go_upto_region 6 with fail
      have k9 := (Step.refl [] w2).alloc (.cells #[.int .i64 y.client, .int .i64 y.seq, .string ⟨y.token.toArray⟩, .iface T u] 35)
      have b9 := Blk.new w2 35 #[.int .i64 y.client, .int .i64 y.seq, .string ⟨y.token.toArray⟩, .iface T u]
      obtain ⟨b3, hb8⟩ : ∃ b8, b8 = w2.heap.size := ⟨_, rfl⟩
      obtain ⟨V3, hV8⟩ : ∃ V8, V8 = w2.alloc (.cells #[.int .i64 y.client, .int .i64 y.seq, .string ⟨y.token.toArray⟩, .iface T u] 35) := ⟨_, rfl⟩
      rw [← hV8] at k9 b9 ⊢
      rw [← hb8] at b9 ⊢
      clear hb8 hV8
      have HD : Hid (IsReq V3 y (.agg #[.int .i64 y.client, .int .i64 y.seq, .string ⟨y.token.toArray⟩, .iface T u])) := Lib.hid (HD0.out.step k9)
      have H3 : Hid (Step [] [] w V3 ∧ Blk V3 b3 35 #[.int .i64 y.client, .int .i64 y.seq, .string ⟨y.token.toArray⟩, .iface T u]) := Lib.hid ⟨H2.out.trans k9, b9⟩
      clear k9 b9 HD0 H2
      go_wp2_with fail
      refine (refRead_any s V3 HL0.out).mono ?_
      rintro e w4 ⟨k4, h4⟩
      rw [HR.out.1] at h4
      rcases h4 with ⟨_, _, d1, e1, d2, e2, d3, e3, rfl, r4⟩ | ⟨hno, _⟩
      · skip
        have H4 : Hid (Step [] [] w w4 ∧ Blk w4 b3 35 #[.int .i64 y.client, .int .i64 y.seq, .string ⟨y.token.toArray⟩, .iface T u] ∧ RdC w4 y d1 d2 d3 ∧ Step [] [] V3 w4) := Lib.hid ⟨H3.out.1.trans k4, H3.out.2.step k4 (by simp), r4, k4⟩
        clear k4 r4 H3
        have HN : Hid (Blk (w4.alloc (.cells cmZ18 29)) w4.heap.size 29 cmZ18) := Lib.hid (Blk.new w4 _ _)
        go_upto_region 7 with (refine wpList_storeRow (T := 29) (b := w4.heap.size) (T' := 29) (cs := cmZ18) (vs := (cmc y (.slice d1 y.ifs.length e1) (.slice d2 y.thens.length e2) (.slice d3 y.elses.length e3)).toArray) rfl (.tmp 5) (.tmp 22) rfl rfl rfl Try.sCmd HN.out rfl (cmc_one _ _ _ _ rfl rfl rfl) ?_; intro U hU ss)
        obtain ⟨b5, hb5⟩ : ∃ b5, b5 = w4.heap.size := ⟨_, rfl⟩
        have kk : Step [] [] w4 U := ((Step.refl [] w4).alloc _).out1' ss (by simp)
        rw [← hb5] at hU ⊢
        have H5 : Hid (Step [] [] w U ∧ Blk U b3 35 #[.int .i64 y.client, .int .i64 y.seq, .string ⟨y.token.toArray⟩, .iface T u] ∧ Blk U b5 29 (cmc y (.slice d1 y.ifs.length e1) (.slice d2 y.thens.length e2) (.slice d3 y.elses.length e3)).toArray ∧ RdC U y d1 d2 d3 ∧ Step [] [] V3 U) := Lib.hid ⟨H4.out.1.trans kk, H4.out.2.1.step kk (by simp), hU, H4.out.2.2.1.step kk, H4.out.2.2.2.trans kk⟩
        clear hU ss HN H4 kk hb5
        have rc := H5.out.2.1.cell
        have rc0 := rc 0
        have rc1 := rc 1
        have rc2 := rc 2
        have rc3 := rc 3
        clear rc
        have rl := H5.out.2.1.lt
        simp only [List.getElem?_toArray, List.getElem?_cons_zero, List.getElem?_cons_succ] at rc0 rc1 rc2 rc3
        go_wp2_with fail
        refine (encode_any (HD.out.step H5.out.2.2.2.2) HYB.out.1 HYB.out.2).mono ?_
        rintro e V7 ⟨rfl, k7⟩
        rw [HR.out.2.2.1]
        have H7 : Hid (Step [] [] w V7 ∧ Blk V7 b3 35 #[.int .i64 y.client, .int .i64 y.seq, .string ⟨y.token.toArray⟩, .iface T u] ∧ Blk V7 b5 29 (cmc y (.slice d1 y.ifs.length e1) (.slice d2 y.thens.length e2) (.slice d3 y.elses.length e3)).toArray ∧ RdC V7 y d1 d2 d3 ∧ Step [] [] V3 V7) := Lib.hid ⟨H5.out.1.trans k7, H5.out.2.1.step k7 (by simp), H5.out.2.2.1.step k7 (by simp), H5.out.2.2.2.1.step k7, H5.out.2.2.2.2.trans k7⟩
        clear k7 H5 rc0 rc1 rc2 rc3 rl
        go_upto_region 10 with fail
        refine wp_region_held_drew (S := fun W => Hid (Step [] [] V7 W)) (by kernel_rfl) (Lib.hid ((Step.refl [] V7).drew)) (fun hHeld => ?_)
        refine wpAnyH_take (i := 0) (v := ?_) rfl (by kernel_rfl) (by kernel_rfl) (by kernel_rfl) (fun _ _ _ h => h) (Or.inl ⟨by rfl, ?_⟩) hHeld ?_
        rotate_left
        · intro w hSw
          have hSw1 := hSw
          clear hSw
          try dsimp only at hSw1
          go_simp
          try (with_reducible rfl)
        try simp only [Act.put, List.setIfInBounds_toArray, List.set_cons_zero, List.set_cons_succ, List.getElem_toArray, List.getElem_cons_zero, List.getElem_cons_succ]
        refine wpAnyH_take (i := 1) (v := ?_) rfl (by kernel_rfl) (by kernel_rfl) (by kernel_rfl) (fun _ _ _ h => h) (Or.inl ⟨by rfl, ?_⟩) hHeld ?_
        rotate_left
        · intro w hSw
          have hSw1 := hSw
          clear hSw
          try dsimp only at hSw1
          go_simp
          try (with_reducible rfl)
        try simp only [Act.put, List.setIfInBounds_toArray, List.set_cons_zero, List.set_cons_succ, List.getElem_toArray, List.getElem_cons_zero, List.getElem_cons_succ]
        refine wpAnyH_take (i := 2) (v := ?_) rfl (by kernel_rfl) (by kernel_rfl) (by kernel_rfl) (fun _ _ _ h => h) (Or.inl ⟨by rfl, ?_⟩) hHeld ?_
        rotate_left
        · intro w hSw
          have hSw1 := hSw
          clear hSw
          try dsimp only at hSw1
          go_simp
          try (with_reducible rfl)
        try simp only [Act.put, List.setIfInBounds_toArray, List.set_cons_zero, List.set_cons_succ, List.getElem_toArray, List.getElem_cons_zero, List.getElem_cons_succ]
        refine wpAnyH_take (i := 3) (v := ?_) rfl (by kernel_rfl) (by kernel_rfl) (by kernel_rfl) (fun _ _ _ h => h) (Or.inl ⟨by rfl, ?_⟩) hHeld ?_
        rotate_left
        · intro w hSw
          have hSw1 := hSw
          clear hSw
          try dsimp only at hSw1
          go_simp
          try (with_reducible rfl)
        try simp only [Act.put, List.setIfInBounds_toArray, List.set_cons_zero, List.set_cons_succ, List.getElem_toArray, List.getElem_cons_zero, List.getElem_cons_succ]
        refine wpAnyH_take (i := 4) (v := ?_) rfl (by kernel_rfl) (by kernel_rfl) (by kernel_rfl) (fun _ _ _ h => h) (Or.inl ⟨by rfl, ?_⟩) hHeld ?_
        rotate_left
        · intro w hSw
          have hSw1 := hSw
          clear hSw
          try dsimp only at hSw1
          go_simp
          try (with_reducible rfl)
        try simp only [Act.put, List.setIfInBounds_toArray, List.set_cons_zero, List.set_cons_succ, List.getElem_toArray, List.getElem_cons_zero, List.getElem_cons_succ]
        refine wpAnyH_take (i := 5) (v := ?_) rfl (by kernel_rfl) (by kernel_rfl) (by kernel_rfl) (fun _ _ _ h => h) (Or.inl ⟨by rfl, ?_⟩) hHeld ?_
        rotate_left
        · intro w hSw
          have hSw1 := hSw
          clear hSw
          try dsimp only at hSw1
          go_simp
          try (with_reducible rfl)
        try simp only [Act.put, List.setIfInBounds_toArray, List.set_cons_zero, List.set_cons_succ, List.getElem_toArray, List.getElem_cons_zero, List.getElem_cons_succ]
        refine wpAnyH_take (i := 6) (v := ?_) rfl (by kernel_rfl) (by kernel_rfl) (by kernel_rfl) (fun _ _ _ h => h) (Or.inl ⟨by rfl, ?_⟩) hHeld ?_
        rotate_left
        · intro w hSw
          have hSw1 := hSw
          clear hSw
          try dsimp only at hSw1
          go_simp
          try (with_reducible rfl)
        try simp only [Act.put, List.setIfInBounds_toArray, List.set_cons_zero, List.set_cons_succ, List.getElem_toArray, List.getElem_cons_zero, List.getElem_cons_succ]
        refine wpAnyH_take (i := 7) (v := ?_) rfl (by kernel_rfl) (by kernel_rfl) (by kernel_rfl) (fun _ _ _ h => h) (Or.inl ⟨by rfl, ?_⟩) hHeld ?_
        rotate_left
        · intro w hSw
          have hSw1 := hSw
          clear hSw
          try dsimp only at hSw1
          go_simp
          try (with_reducible rfl)
        try simp only [Act.put, List.setIfInBounds_toArray, List.set_cons_zero, List.set_cons_succ, List.getElem_toArray, List.getElem_cons_zero, List.getElem_cons_succ]
        refine wpAnyH_take (i := 8) (v := ?_) rfl (by kernel_rfl) (by kernel_rfl) (by kernel_rfl) (fun _ _ _ h => h) (Or.inl ⟨by rfl, ?_⟩) hHeld ?_
        rotate_left
        · intro w hSw
          have hSw1 := hSw
          clear hSw
          try dsimp only at hSw1
          go_simp
          try (with_reducible rfl)
        try simp only [Act.put, List.setIfInBounds_toArray, List.set_cons_zero, List.set_cons_succ, List.getElem_toArray, List.getElem_cons_zero, List.getElem_cons_succ]
        refine wpAnyH_take (i := 9) (v := ?_) rfl (by kernel_rfl) (by kernel_rfl) (by kernel_rfl) (fun _ _ _ h => h) (Or.inl ⟨by rfl, ?_⟩) hHeld ?_
        rotate_left
        · intro w hSw
          have hSw1 := hSw
          clear hSw
          try dsimp only at hSw1
          go_simp
          try (with_reducible rfl)
        try simp only [Act.put, List.setIfInBounds_toArray, List.set_cons_zero, List.set_cons_succ, List.getElem_toArray, List.getElem_cons_zero, List.getElem_cons_succ]
        refine wpAnyH_take (i := 10) (v := ?_) rfl (by kernel_rfl) (by kernel_rfl) (by kernel_rfl) (fun _ _ _ h => h) (Or.inl ⟨by rfl, ?_⟩) hHeld ?_
        rotate_left
        · intro w hSw
          have hSw1 := hSw
          clear hSw
          try dsimp only at hSw1
          go_simp
          try (with_reducible rfl)
        try simp only [Act.put, List.setIfInBounds_toArray, List.set_cons_zero, List.set_cons_succ, List.getElem_toArray, List.getElem_cons_zero, List.getElem_cons_succ]
        refine wpAnyH_take (i := 11) (v := ?_) rfl (by kernel_rfl) (by kernel_rfl) (by kernel_rfl) (fun _ _ _ h => h) (Or.inl ⟨by rfl, ?_⟩) hHeld ?_
        rotate_left
        · intro w hSw
          have hSw1 := hSw
          clear hSw
          try dsimp only at hSw1
          go_simp
          try (with_reducible rfl)
        try simp only [Act.put, List.setIfInBounds_toArray, List.set_cons_zero, List.set_cons_succ, List.getElem_toArray, List.getElem_cons_zero, List.getElem_cons_succ]
        refine wpAnyH_take (i := 12) (v := ?_) rfl (by kernel_rfl) (by kernel_rfl) (by kernel_rfl) (fun _ _ _ h => h) (Or.inl ⟨by rfl, ?_⟩) hHeld ?_
        rotate_left
        · intro w hSw
          have hSw1 := hSw
          clear hSw
          have tc := (H7.out.2.1.step hSw1.out (by simp)).cell
          have t0 := tc 0
          have t1 := tc 1
          have t2 := tc 2
          have t3 := tc 3
          clear tc
          simp only [cmc, List.getElem?_toArray, List.getElem?_cons_zero, List.getElem?_cons_succ] at t0 t1 t2 t3
          have tl := (H7.out.2.1.step hSw1.out (by simp)).lt
          go_simp
          try (with_reducible rfl)
        try simp only [Act.put, List.setIfInBounds_toArray, List.set_cons_zero, List.set_cons_succ, List.getElem_toArray, List.getElem_cons_zero, List.getElem_cons_succ]
        refine wpAnyH_take (i := 14) (v := ?_) rfl (by kernel_rfl) (by kernel_rfl) (by kernel_rfl) (fun _ _ _ h => h) (Or.inl ⟨by rfl, ?_⟩) hHeld ?_
        rotate_left
        · intro w hSw
          have hSw1 := hSw
          clear hSw
          have tc := (H7.out.2.2.1.step hSw1.out (by simp)).cell
          have t0 := tc 0
          have t1 := tc 1
          have t2 := tc 2
          have t3 := tc 3
          have t4 := tc 4
          have t5 := tc 5
          have t6 := tc 6
          have t7 := tc 7
          have t8 := tc 8
          have t9 := tc 9
          have t10 := tc 10
          have t11 := tc 11
          have t12 := tc 12
          have t13 := tc 13
          have t14 := tc 14
          have t15 := tc 15
          have t16 := tc 16
          have t17 := tc 17
          clear tc
          simp only [cmc, List.getElem?_toArray, List.getElem?_cons_zero, List.getElem?_cons_succ] at t0 t1 t2 t3 t4 t5 t6 t7 t8 t9 t10 t11 t12 t13 t14 t15 t16 t17
          have tl := (H7.out.2.2.1.step hSw1.out (by simp)).lt
          go_simp
          try (with_reducible rfl)
        try simp only [Act.put, List.setIfInBounds_toArray, List.set_cons_zero, List.set_cons_succ, List.getElem_toArray, List.getElem_cons_zero, List.getElem_cons_succ]
        refine wpAnyH_ready (rs := [13]) (by kernel_rfl) (by simp) ?_
        refine AllReadyH.cons rfl (fun K hK => ?_) AllReadyH.nil
        go_simp
        refine (HD.out.flat _ (H7.out.2.2.2.2.trans hHeld.out)).mono ?_; rintro e Z ⟨f1, g1, f2, g2, f3, g3, rfl, q9, kz⟩; have G1 := Lib.hid (And.intro q9 (hHeld.out.trans kz)); clear q9 kz
        go_wp2_with fail
        refine hK.out _ _ (Lib.hid G1.out.2) (fun hHeld2 => ?_)
        clear hK K hHeld
        try simp only [Act.put, List.setIfInBounds_toArray, List.set_cons_zero, List.set_cons_succ, List.getElem_toArray, List.getElem_cons_zero, List.getElem_cons_succ]
        refine wpAnyH_ready (rs := [15]) (by kernel_rfl) (by simp) ?_
        refine AllReadyH.cons rfl (fun K hK => ?_) AllReadyH.nil
        go_simp
        refine (sameC_any y f1 f2 f3 d1 d2 d3 g1 g2 g3 e1 e2 e3 Z G1.out.1 (H7.out.2.2.2.1.step G1.out.2) HLY2.out).mono ?_; rintro e Z2 ⟨rfl, kz⟩; have G2 := Lib.hid (G1.out.2.trans kz); clear kz
        go_wp2_with fail
        refine hK.out _ _ (Lib.hid G2.out) (fun hHeld3 => ?_)
        clear hK K hHeld2
        try simp only [Act.put, List.setIfInBounds_toArray, List.set_cons_zero, List.set_cons_succ, List.getElem_toArray, List.getElem_cons_zero, List.getElem_cons_succ]
        refine wpAnyH_take (i := 16) (v := ?_) rfl (by kernel_rfl) (by kernel_rfl) (by kernel_rfl) (fun _ _ _ h => h) (Or.inl ⟨by rfl, ?_⟩) hHeld3 ?_
        rotate_left
        · intro w hSw
          have hSw1 := hSw
          clear hSw
          try dsimp only at hSw1
          go_simp
          try (with_reducible rfl)
        try simp only [Act.put, List.setIfInBounds_toArray, List.set_cons_zero, List.set_cons_succ, List.getElem_toArray, List.getElem_cons_zero, List.getElem_cons_succ]
        refine wpAnyH_take (i := 17) (v := ?_) rfl (by kernel_rfl) (by kernel_rfl) (by kernel_rfl) (fun _ _ _ h => h) (Or.inl ⟨by rfl, ?_⟩) hHeld3 ?_
        rotate_left
        · intro w hSw
          have hSw1 := hSw
          clear hSw
          try dsimp only at hSw1
          go_simp
          try (with_reducible rfl)
        try simp only [Act.put, List.setIfInBounds_toArray, List.set_cons_zero, List.set_cons_succ, List.getElem_toArray, List.getElem_cons_zero, List.getElem_cons_succ]
        refine wpAnyH_done (by kernel_rfl) ?_ _
        go_wp2_with fail
        exact bodyPost_ret (results_tmp rfl _ _ _) rfl ⟨rfl, (H7.out.1.trans G2.out)⟩
      · exact absurd ⟨HR.out.2.2.2, HR.out.2.1⟩ hno
    · skip
      have HR := Lib.hid (refC_no HL0.out hy)
      clear hy
      go_upto_region 6 with fail
      have k9 := (Step.refl [] w2).alloc (.cells #[.int .i64 0, .int .i64 0, .string ⟨#[]⟩, .nilIface] 35)
      have b9 := Blk.new w2 35 #[.int .i64 0, .int .i64 0, .string ⟨#[]⟩, .nilIface]
      obtain ⟨b3, hb8⟩ : ∃ b8, b8 = w2.heap.size := ⟨_, rfl⟩
      obtain ⟨V3, hV8⟩ : ∃ V8, V8 = w2.alloc (.cells #[.int .i64 0, .int .i64 0, .string ⟨#[]⟩, .nilIface] 35) := ⟨_, rfl⟩
      rw [← hV8] at k9 b9 ⊢
      rw [← hb8] at b9 ⊢
      clear hb8 hV8
      have H3 : Hid (Step [] [] w V3 ∧ Blk V3 b3 35 #[.int .i64 0, .int .i64 0, .string ⟨#[]⟩, .nilIface]) := Lib.hid ⟨H2.out.trans k9, b9⟩
      clear k9 b9 H2
      go_wp2_with fail
      refine (refRead_any s V3 HL0.out).mono ?_
      rintro e w4 ⟨k4, h4⟩
      rcases h4 with ⟨h41, h42, _⟩ | ⟨_, rfl⟩
      · exact absurd ⟨h41, h42⟩ HR.out
      · skip
        have H4 : Hid (Step [] [] w w4 ∧ Blk w4 b3 35 #[.int .i64 0, .int .i64 0, .string ⟨#[]⟩, .nilIface]) := Lib.hid ⟨H3.out.1.trans k4, H3.out.2.step k4 (by simp)⟩
        clear k4 H3
        have HN : Hid (Blk (w4.alloc (.cells cmZ18 29)) w4.heap.size 29 cmZ18) := Lib.hid (Blk.new w4 _ _)
        go_upto_region 7 with (refine wpList_storeRow (T := 29) (b := w4.heap.size) (T' := 29) (cs := cmZ18) (vs := cmZ18) rfl (.tmp 5) (.tmp 22) rfl rfl rfl Try.sCmd HN.out rfl cmZ18_one ?_; intro U hU ss)
        have kk : Step [] [] w4 U := ((Step.refl [] w4).alloc _).out1' ss (by simp)
        have H5 : Hid (Step [] [] w U ∧ Blk U b3 35 #[.int .i64 0, .int .i64 0, .string ⟨#[]⟩, .nilIface]) := Lib.hid ⟨H4.out.1.trans kk, H4.out.2.step kk (by simp)⟩
        clear hU ss HN H4 kk
        have rc := H5.out.2.cell
        have rc0 := rc 0
        have rc1 := rc 1
        have rc2 := rc 2
        have rc3 := rc 3
        clear rc
        have rl := H5.out.2.lt
        simp only [List.getElem?_toArray, List.getElem?_cons_zero, List.getElem?_cons_succ] at rc0 rc1 rc2 rc3
        go_wp2_with fail
        exact bodyPost_ret (results_tmp rfl _ _ _) rfl ⟨rfl, H5.out.1⟩

theorem ReqReads_walk (v0 : Value) (w : World) {b : Nat} (h0 : Value.okWide Try.prog w .any b 9 v0) (o0 : Op Try.prog w 9 v0.cells.toList) :
    Calls Try.prog 4 #[v0] w fun e w' => e = .returned (.bool true) ∧ Below w.heap.size w w' := by
  obtain ⟨s, rfl, hs⟩ := strr_in h0 o0
  exact (reads20_any s w hs).mono fun e w' ⟨h1, h2⟩ => ⟨h1, h2.below0⟩
set_option maxRecDepth 100000 in
theorem ReqReads_lifted (os : Os) (started : os.Started) (H : Type) (enc : TypeId × Value → H) :
    ReturnsInHanded {} Try.checked os 4 .any (Rows.reqReadsSpec.pre6 enc Try.prog Try.f4 Rows.reqReadsRow.domain false) (Rows.reqReadsSpec.post enc Try.prog Try.f4 false true false false) := by
  refine returnsInHanded_of_change_sized (C := Try.checked) (by kernel_rfl) started (by kernel_rfl) Try.func4
    (ChangeSpec.witness6 (enc := enc) (C := Try.checked) false ⟨#[], #[.string ⟨#[]⟩], []⟩ 8 (by kernel_rfl) (by kernel_rfl) (by kernel_rfl) (by kernel_rfl)) ?_
  intro W base args ds gs before hval0 hW hcnd hsz0 _
  have hval : ∀ (j : Nat) t v, Try.f4.params[j]? = some t → args[j]? = some v → Value.okWide Try.prog W .any base t v := hval0
  have hsz : (DataW.weightsEach Try.prog (Try.f4.params.toList ++ Rows.reqReadsSpec.plain.varTypes Try.prog) (ds ++ gs)).all (· ≤ reachBytes) = true := hsz0
  have hW' := hW
  obtain ⟨p, q, hA0, hV, rfl, hfz, hnd⟩ := hW
  have hA : DataW.TrodAll enc Try.prog W 0 (fun _ => true) true Try.f4.params.toList args.toList ds p := hA0
  rw [Try.params4] at hA hval hsz
  obtain ⟨v0, vs0, d0, ds0, p0, q0, hargs, rfl, rfl, h0, r0⟩ := trodAll_cons hA
  obtain ⟨rfl, rfl, rfl⟩ := trodAll_nil r0
  obtain rfl : args = #[v0] := by cases args; simp_all
  obtain ⟨rfl, rfl⟩ := trodVars_none hV
  have lt0 : ∀ x ∈ p0, x.block < W.heap.size := by obtain ⟨m, hm⟩ := h0; exact DataW.trod_lt m _ _ _ hm
  have o0 := op_of hsz (j := 0) rfl rfl h0
  refine (ReqReads_walk v0 W (hval 0 _ v0 rfl rfl) o0).mono fun e W' ⟨he, bel⟩ => ?_
  subst he
  exact ⟨_, rfl, _, _, _, [], _, [], hW', trodAll_mk1 (shut_bool Try.underlying4 _), (trodAll_cons_mk (Below.trod (by kernel_rfl) (by kernel_rfl) (of_decide_eq_true (by kernel_rfl)) h0 bel lt0) trodAll_mk0), rfl, bel.frame _, fun h => by cases h⟩

/-- The statement. -/
theorem ReqReads_holds : Rows.ReqReadsSaid :=
  OpenClaim.holds_of_wide 4 Try.f4 rfl rfl rfl rfl rfl rfl rfl ⟨rfl, rfl, rfl, rfl, rfl⟩ rfl rfl rfl rfl rfl (by kernel_rfl) Try.func4 (by kernel_rfl)
    (of_decide_eq_true (by kernel_rfl)) (by unfold Func.isWrapper; rw [if_neg (of_decide_eq_false (by kernel_rfl))]; exact ⟨rfl, rfl⟩)
    (fun os started H enc _ => ReqReads_lifted os started H enc)
#print axioms ReqReads_holds
end Go.Proofs.Ytifjnpdnnfdcoaa
