/-
  ReqBytes: any request has the bytes that the document says, or the error, and comes back from them. No condition beyond the row's.
-/
import Derived.Test.YtifjnpdnnfdcoaaReqS
import Derived.Test.YtifjnpdnnfdcoaaReqQ
import Derived.Test.YtifjnpdnnfdcoaaReqX
import Derived.Test.YtifjnpdnnfdcoaaReqW
import Derived.Test.YtifjnpdnnfdcoaaReqV
import Derived.Test.YtifjnpdnnfdcoaaReqP
import Derived.Test.YtifjnpdnnfdcoaaReqOpen
import Derived.Test.YtifjnpdnnfdcoaaReqPlain6
import Derived.Test.YtifjnpdnnfdcoaaRows
namespace Go.Proofs.Ytifjnpdnnfdcoaa
open Go.RowKit Go.Lib Go.ChangeShapes Go.WideShapes Go.ChangeAt
set_option linter.unusedSimpArgs false
set_option linter.unusedVariables false
set_option maxRecDepth 100000

theorem LenC.of_smallC {x : Cm} (h : Small x) : LenC x := ⟨by have := h.li; omega, by have := h.lt; omega, by have := h.le; omega⟩
theorem LenS.of_small {x : Cm} (h : Small x) : LenS x := ⟨by have := h.li; omega, by have := h.lt; omega, by have := h.le; omega⟩
theorem reqB_pos (x : Cm) : 0 < (reqB x).length := by
  rw [reqB, reqIts, itsB_cons, List.length_append, nI_B]
  have : 0 < (numB x.kind.toNat).length := by simp [numB]
  omega
set_option maxHeartbeats 8000000 in
theorem bytes20_any (x : Cm) (a1 a2 a3 : Option Addr) (c1 c2 c3 : Nat) (w : World) (hr : RdC w x a1 a2 a3) (hB : CmB x) :
    Calls Try.prog 3 #[cmV x (.slice a1 x.ifs.length c1) (.slice a2 x.thens.length c2) (.slice a3 x.elses.length c3)] w fun e w' => e = .returned (.bool true) ∧ Step [] [] w w' := by
  have H00 : Hid (Blk (w.alloc (.cells (cmc x (.slice a1 x.ifs.length c1) (.slice a2 x.thens.length c2) (.slice a3 x.elses.length c3)).toArray 29)) w.heap.size 29 (cmc x (.slice a1 x.ifs.length c1) (.slice a2 x.thens.length c2) (.slice a3 x.elses.length c3)).toArray ∧ RdC (w.alloc (.cells (cmc x (.slice a1 x.ifs.length c1) (.slice a2 x.thens.length c2) (.slice a3 x.elses.length c3)).toArray 29)) x a1 a2 a3 ∧ Step [] [] w (w.alloc (.cells (cmc x (.slice a1 x.ifs.length c1) (.slice a2 x.thens.length c2) (.slice a3 x.elses.length c3)).toArray 29))) := Lib.hid ⟨Blk.new w _ _, hr.step ((Step.refl [] w).alloc _), (Step.refl [] w).alloc _⟩
  have HCB := Lib.hid hB
  clear hr hB
  go_enter Try.func3, Try.ntmps3
  go_upto_region 1 with fail
  change Code.wp _ _ _ _ (w.alloc (.cells (cmc x (.slice a1 x.ifs.length c1) (.slice a2 x.thens.length c2) (.slice a3 x.elses.length c3)).toArray 29))
  obtain ⟨b, hb⟩ : ∃ b, b = w.heap.size := ⟨_, rfl⟩
  obtain ⟨V, hV⟩ : ∃ V, V = (w.alloc (.cells (cmc x (.slice a1 x.ifs.length c1) (.slice a2 x.thens.length c2) (.slice a3 x.elses.length c3)).toArray 29)) := ⟨_, rfl⟩
  rw [← hV, ← hb] at H00
  have H0 := H00
  rw [← hV]
  try rw [← hb]
  clear hV hb H00
  go_wp2_with fail
  refine (awake20_true V).mono ?_
  rintro e w1 ⟨rfl, k1⟩
  have H1 : Hid (Blk w1 b 29 (cmc x (.slice a1 x.ifs.length c1) (.slice a2 x.thens.length c2) (.slice a3 x.elses.length c3)).toArray ∧ RdC w1 x a1 a2 a3 ∧ Step [] [] w w1) := Lib.hid ⟨H0.out.1.step k1 (by simp), H0.out.2.1.step k1, H0.out.2.2.trans k1⟩
  clear k1 H0
  go_wp2_with (refine wpList_loadRow (T := 29) (b := b) (T' := 29) (cs := (cmc x (.slice a1 x.ifs.length c1) (.slice a2 x.thens.length c2) (.slice a3 x.elses.length c3)).toArray) rfl (.tmp 1) rfl rfl Try.sCmd H1.out.1 ?_)
  refine (great_any x a1 a2 a3 c1 c2 c3 w1 H1.out.2.1).mono ?_
  rintro e w2 ⟨g, rfl, hg, k2⟩
  have H2 : Hid (Blk w2 b 29 (cmc x (.slice a1 x.ifs.length c1) (.slice a2 x.thens.length c2) (.slice a3 x.elses.length c3)).toArray ∧ RdC w2 x a1 a2 a3 ∧ Step [] [] w w2) := Lib.hid ⟨H1.out.1.step k2 (by simp), H1.out.2.1.step k2, H1.out.2.2.trans k2⟩
  clear k2 H1
  cases g with
  | true =>
    clear hg
    go_wp2_with fail
    exact bodyPost_ret (results_tmp rfl _ _ _) rfl ⟨rfl, H2.out.2.2⟩
  | false =>
    have HS := Lib.hid (hg rfl)
    clear hg
    cases hik : isK x.kind with
    | false =>
      have HK := Lib.hid hik
      clear hik
      go_wp2_with (refine wpList_loadRow (T := 29) (b := b) (T' := 29) (cs := (cmc x (.slice a1 x.ifs.length c1) (.slice a2 x.thens.length c2) (.slice a3 x.elses.length c3)).toArray) rfl (.tmp 1) rfl rfl Try.sCmd H2.out.1 ?_)
      refine (of_none x a1 a2 a3 c1 c2 c3 w2 HK.out).mono ?_
      rintro e w3 ⟨rfl, k3⟩
      have H3 := Lib.hid (H2.out.2.2.trans k3)
      clear k3
      go_wp2_with fail
      exact bodyPost_ret (results_tmp rfl _ _ _) rfl ⟨rfl, (H3.out.alloc _)⟩
    | true =>
      have HK := Lib.hid hik
      clear hik
      go_wp2_with (refine wpList_loadRow (T := 29) (b := b) (T' := 29) (cs := (cmc x (.slice a1 x.ifs.length c1) (.slice a2 x.thens.length c2) (.slice a3 x.elses.length c3)).toArray) rfl (.tmp 1) rfl rfl Try.sCmd H2.out.1 ?_)
      refine (of_any x a1 a2 a3 c1 c2 c3 w2 HK.out H2.out.2.1 (LenC.of_smallC HS.out)).mono ?_
      rintro e w3 ⟨m, rfl, hm, k3⟩
      obtain ⟨y, hy⟩ : ∃ y, y = cleanC x := ⟨_, rfl⟩
      have HY := Lib.hid hy
      rw [← hy] at hm
      obtain ⟨T, u, hv⟩ := hm.shape
      subst hv
      have HM0 := Lib.hid hm
      clear hm hy
      go_upto_region 6 with fail
      have k4 := k3.alloc (.cells #[.int .i64 y.client, .int .i64 y.seq, .string ⟨y.token.toArray⟩, .iface T u] 35)
      have b4 := Blk.new w3 35 #[.int .i64 y.client, .int .i64 y.seq, .string ⟨y.token.toArray⟩, .iface T u]
      obtain ⟨b3, hb3⟩ : ∃ b3, b3 = w3.heap.size := ⟨_, rfl⟩
      obtain ⟨V3, hV3⟩ : ∃ V3, V3 = w3.alloc (.cells #[.int .i64 y.client, .int .i64 y.seq, .string ⟨y.token.toArray⟩, .iface T u] 35) := ⟨_, rfl⟩
      have HM := Lib.hid (HM0.out.step ((Step.refl [] w3).alloc (.cells #[.int .i64 y.client, .int .i64 y.seq, .string ⟨y.token.toArray⟩, .iface T u] 35)))
      rw [← hV3] at HM
      clear HM0
      rw [← hV3] at k4 b4 ⊢
      rw [← hb3] at b4 ⊢
      clear hb3 hV3 k3
      have H3 : Hid (Blk V3 b 29 (cmc x (.slice a1 x.ifs.length c1) (.slice a2 x.thens.length c2) (.slice a3 x.elses.length c3)).toArray ∧ RdC V3 x a1 a2 a3 ∧ Step [] [] w V3 ∧ Blk V3 b3 35 #[.int .i64 y.client, .int .i64 y.seq, .string ⟨y.token.toArray⟩, .iface T u]) := Lib.hid ⟨H2.out.1.step k4 (by simp), H2.out.2.1.step k4, H2.out.2.2.trans k4, b4⟩
      clear k4 b4 H2
      have HYK : Hid (isK y.kind = true ∧ cleanC y = y ∧ y.kind = x.kind) := Lib.hid ⟨by rw [HY.out, clean_kind HK.out]; exact HK.out, by rw [HY.out]; exact clean_twice HK.out, by rw [HY.out]; exact clean_kind HK.out⟩
      have HYB : Hid (CmB y ∧ LenS y) := Lib.hid ⟨by rw [HY.out]; exact HCB.out.clean, by rw [HY.out]; exact (LenS.of_small HS.out).clean⟩
      have rc := H3.out.2.2.2.cell
      have rc0 := rc 0
      have rc1 := rc 1
      have rc2 := rc 2
      have rc3 := rc 3
      clear rc
      have rl := H3.out.2.2.2.lt
      simp only [List.getElem?_toArray, List.getElem?_cons_zero, List.getElem?_cons_succ] at rc0 rc1 rc2 rc3
      go_wp2_with fail
      refine (encode_any HM.out HYB.out.1 HYB.out.2).mono ?_
      rintro e w4 ⟨rfl, k4⟩
      have H4 : Hid (Blk w4 b 29 (cmc x (.slice a1 x.ifs.length c1) (.slice a2 x.thens.length c2) (.slice a3 x.elses.length c3)).toArray ∧ RdC w4 x a1 a2 a3 ∧ Step [] [] w w4) := Lib.hid ⟨H3.out.1.step k4 (by simp), H3.out.2.1.step k4, H3.out.2.2.1.trans k4⟩
      clear k4 HM H3 rc0 rc1 rc2 rc3 rl
      have HRB : Hid (refBq x = encC y) := Lib.hid (by rw [refBq, if_pos HK.out, ← HY.out, refB_enc y HYK.out.1 HYK.out.2.1 HYB.out.2])
      go_wp2_with (refine wpList_loadRow (T := 29) (b := b) (T' := 29) (cs := (cmc x (.slice a1 x.ifs.length c1) (.slice a2 x.thens.length c2) (.slice a3 x.elses.length c3)).toArray) rfl (.tmp 1) rfl rfl Try.sCmd H4.out.1 ?_)
      refine (rbytes_any x a1 a2 a3 c1 c2 c3 w4 H4.out.2.1 HCB.out (LenS.of_small HS.out)).mono ?_
      rintro e w5 ⟨rfl, k5⟩
      rw [HRB.out]
      have H5 : Hid (Blk w5 b 29 (cmc x (.slice a1 x.ifs.length c1) (.slice a2 x.thens.length c2) (.slice a3 x.elses.length c3)).toArray ∧ RdC w5 x a1 a2 a3 ∧ Step [] [] w w5) := Lib.hid ⟨H4.out.1.step k5 (by simp), H4.out.2.1.step k5, H4.out.2.2.trans k5⟩
      clear k5 H4
      obtain ⟨⟨s, ee⟩, hse⟩ : ∃ p, p = encC y := ⟨_, rfl⟩
      rw [← hse]
      by_cases h0 : ee = 0
      · subst h0
        obtain ⟨hrt, hbs⟩ := encC_some y s hse.symm
        have HR := Lib.hid hrt
        have hsl : s.length ≤ 8192 := by rw [hbs]; exact (right_of hrt).2.2.2
        have HSB := Lib.hid hbs
        clear hrt hbs hse
        go_wp2_with (refine wpList_loadRow (T := 29) (b := b) (T' := 29) (cs := (cmc x (.slice a1 x.ifs.length c1) (.slice a2 x.thens.length c2) (.slice a3 x.elses.length c3)).toArray) rfl (.tmp 1) rfl rfl Try.sCmd H5.out.1 ?_)
        refine (rclean_any x a1 a2 a3 c1 c2 c3 w5 H5.out.2.1 (LenC.of_smallC HS.out)).mono ?_
        rintro e w6 ⟨d1, e1, d2, e2, d3, e3, rfl, r6, k6⟩
        rw [HK.out]
        rw [← HY.out] at r6 ⊢
        have HN : Hid (Blk (w6.alloc (.cells cmZ18 29)) w6.heap.size 29 cmZ18) := Lib.hid (Blk.new w6 _ _)
        have H6 : Hid (RdC w6 y d1 d2 d3 ∧ Step [] [] w w6) := Lib.hid ⟨r6, H5.out.2.2.trans k6⟩
        clear k6 r6 H5
        go_upto_region 15 with (refine wpList_storeRow (T := 29) (b := w6.heap.size) (T' := 29) (cs := cmZ18) (vs := (cmc y (.slice d1 y.ifs.length e1) (.slice d2 y.thens.length e2) (.slice d3 y.elses.length e3)).toArray) rfl (.tmp 9) (.tmp 47) rfl rfl rfl Try.sCmd HN.out rfl (cmc_one _ _ _ _ rfl rfl rfl) ?_; intro U hU ss)
        obtain ⟨b5, hb5⟩ : ∃ b5, b5 = w6.heap.size := ⟨_, rfl⟩
        have kk : Step [] [] w6 U := ((Step.refl [] w6).alloc _).out1' ss (by simp)
        rw [← hb5] at hU ⊢
        have H7 : Hid (Blk U b5 29 (cmc y (.slice d1 y.ifs.length e1) (.slice d2 y.thens.length e2) (.slice d3 y.elses.length e3)).toArray ∧ RdC U y d1 d2 d3 ∧ Step [] [] w U) := Lib.hid ⟨hU, H6.out.1.step kk, H6.out.2.trans kk⟩
        clear hU ss HN H6 kk hb5
        go_wp2_with fail
        refine (decodeQ_any s U (by omega)).mono ?_
        rintro e w8 ⟨h8, k8⟩
        rw [HSB.out, decC_right HYK.out.1 HYK.out.2.1 HR.out] at h8
        rcases h8 with ⟨r, m8, h8, rfl, hm8⟩ | ⟨h8, _⟩
        · injection h8 with h8
          subst h8
          have HD := Lib.hid hm8
          obtain ⟨T8, u8, hv8⟩ := hm8.shape
          subst hv8
          clear hm8
          have H8 : Hid (Blk w8 b5 29 (cmc y (.slice d1 y.ifs.length e1) (.slice d2 y.thens.length e2) (.slice d3 y.elses.length e3)).toArray ∧ RdC w8 y d1 d2 d3 ∧ Step [] [] w w8) := Lib.hid ⟨H7.out.1.step k8 (by simp), H7.out.2.1.step k8, H7.out.2.2.trans k8⟩
          clear k8 H7
          go_upto_region 16 with fail
          have k9 := (Step.refl [] w8).alloc (.cells #[.int .i64 y.client, .int .i64 y.seq, .string ⟨y.token.toArray⟩, .iface T8 u8] 35)
          have b9 := Blk.new w8 35 #[.int .i64 y.client, .int .i64 y.seq, .string ⟨y.token.toArray⟩, .iface T8 u8]
          obtain ⟨b8, hb8⟩ : ∃ b8, b8 = w8.heap.size := ⟨_, rfl⟩
          obtain ⟨V8, hV8⟩ : ∃ V8, V8 = w8.alloc (.cells #[.int .i64 y.client, .int .i64 y.seq, .string ⟨y.token.toArray⟩, .iface T8 u8] 35) := ⟨_, rfl⟩
          rw [← hV8] at k9 b9 ⊢
          rw [← hb8] at b9 ⊢
          clear hb8 hV8
          have H9 : Hid (Blk V8 b5 29 (cmc y (.slice d1 y.ifs.length e1) (.slice d2 y.thens.length e2) (.slice d3 y.elses.length e3)).toArray ∧ RdC V8 y d1 d2 d3 ∧ Step [] [] w V8 ∧ Blk V8 b8 35 #[.int .i64 y.client, .int .i64 y.seq, .string ⟨y.token.toArray⟩, .iface T8 u8] ∧ Step [] [] w8 V8) := Lib.hid ⟨H8.out.1.step k9 (by simp), H8.out.2.1.step k9, H8.out.2.2.trans k9, b9, k9⟩
          clear k9 b9 H8
          have HLY2 : Hid (LenC y) := Lib.hid HD.out.len
          refine wp_region_held_drew (S := fun W => Hid (Step [] [] V8 W)) (by kernel_rfl) (Lib.hid ((Step.refl [] V8).drew)) (fun hHeld => ?_)
          refine wpAnyH_take (i := 0) (v := ?_) rfl (by kernel_rfl) (by kernel_rfl) (by kernel_rfl) (fun _ _ _ h => h) (Or.inl ⟨by rfl, ?_⟩) hHeld ?_
          rotate_left
          · intro w hSw
            have hSw1 := hSw
            clear hSw
            try dsimp only at hSw1
            go_simp
            try (with_reducible rfl)
          try simp only [Act.put, List.setIfInBounds_toArray, List.set_cons_zero, List.set_cons_succ, List.getElem_toArray, List.getElem_cons_zero, List.getElem_cons_succ]
          refine wpAnyH_take (i := 1) (v := ?_) rfl (by kernel_rfl) (by kernel_rfl) (by kernel_rfl) (fun _ _ _ h => h) (Or.inl ⟨by rfl, ?_⟩) hHeld ?_
          rotate_left
          · intro w hSw
            have hSw1 := hSw
            clear hSw
            try dsimp only at hSw1
            go_simp
            try (with_reducible rfl)
          try simp only [Act.put, List.setIfInBounds_toArray, List.set_cons_zero, List.set_cons_succ, List.getElem_toArray, List.getElem_cons_zero, List.getElem_cons_succ]
          refine wpAnyH_take (i := 2) (v := ?_) rfl (by kernel_rfl) (by kernel_rfl) (by kernel_rfl) (fun _ _ _ h => h) (Or.inl ⟨by rfl, ?_⟩) hHeld ?_
          rotate_left
          · intro w hSw
            have hSw1 := hSw
            clear hSw
            try dsimp only at hSw1
            go_simp
            try (with_reducible rfl)
          try simp only [Act.put, List.setIfInBounds_toArray, List.set_cons_zero, List.set_cons_succ, List.getElem_toArray, List.getElem_cons_zero, List.getElem_cons_succ]
          refine wpAnyH_take (i := 3) (v := ?_) rfl (by kernel_rfl) (by kernel_rfl) (by kernel_rfl) (fun _ _ _ h => h) (Or.inl ⟨by rfl, ?_⟩) hHeld ?_
          rotate_left
          · intro w hSw
            have hSw1 := hSw
            clear hSw
            have tc := (H9.out.2.2.2.1.step hSw1.out (by simp)).cell
            have t0 := tc 0
            have t1 := tc 1
            have t2 := tc 2
            have t3 := tc 3
            clear tc
            simp only [cmc, List.getElem?_toArray, List.getElem?_cons_zero, List.getElem?_cons_succ] at t0 t1 t2 t3
            have tl := (H9.out.2.2.2.1.step hSw1.out (by simp)).lt
            go_simp
            try (with_reducible rfl)
          try simp only [Act.put, List.setIfInBounds_toArray, List.set_cons_zero, List.set_cons_succ, List.getElem_toArray, List.getElem_cons_zero, List.getElem_cons_succ]
          refine wpAnyH_take (i := 5) (v := ?_) rfl (by kernel_rfl) (by kernel_rfl) (by kernel_rfl) (fun _ _ _ h => h) (Or.inl ⟨by rfl, ?_⟩) hHeld ?_
          rotate_left
          · intro w hSw
            have hSw1 := hSw
            clear hSw
            have tc := (H9.out.1.step hSw1.out (by simp)).cell
            have t0 := tc 0
            have t1 := tc 1
            have t2 := tc 2
            have t3 := tc 3
            have t4 := tc 4
            have t5 := tc 5
            have t6 := tc 6
            have t7 := tc 7
            have t8 := tc 8
            have t9 := tc 9
            have t10 := tc 10
            have t11 := tc 11
            have t12 := tc 12
            have t13 := tc 13
            have t14 := tc 14
            have t15 := tc 15
            have t16 := tc 16
            have t17 := tc 17
            clear tc
            simp only [cmc, List.getElem?_toArray, List.getElem?_cons_zero, List.getElem?_cons_succ] at t0 t1 t2 t3 t4 t5 t6 t7 t8 t9 t10 t11 t12 t13 t14 t15 t16 t17
            have tl := (H9.out.1.step hSw1.out (by simp)).lt
            go_simp
            try (with_reducible rfl)
          try simp only [Act.put, List.setIfInBounds_toArray, List.set_cons_zero, List.set_cons_succ, List.getElem_toArray, List.getElem_cons_zero, List.getElem_cons_succ]
          refine wpAnyH_ready (rs := [4]) (by kernel_rfl) (by simp) ?_
          refine AllReadyH.cons rfl (fun K hK => ?_) AllReadyH.nil
          go_simp
          refine (HD.out.flat _ (H9.out.2.2.2.2.trans hHeld.out)).mono ?_; rintro e Z ⟨f1, g1, f2, g2, f3, g3, rfl, q9, kz⟩; have G1 := Lib.hid (And.intro q9 (hHeld.out.trans kz)); clear q9 kz
          go_wp2_with fail
          refine hK.out _ _ (Lib.hid G1.out.2) (fun hHeld2 => ?_)
          clear hK K hHeld
          try simp only [Act.put, List.setIfInBounds_toArray, List.set_cons_zero, List.set_cons_succ, List.getElem_toArray, List.getElem_cons_zero, List.getElem_cons_succ]
          refine wpAnyH_ready (rs := [6]) (by kernel_rfl) (by simp) ?_
          refine AllReadyH.cons rfl (fun K hK => ?_) AllReadyH.nil
          go_simp
          refine (sameC_any y f1 f2 f3 d1 d2 d3 g1 g2 g3 e1 e2 e3 Z G1.out.1 (H9.out.2.1.step G1.out.2) HLY2.out).mono ?_; rintro e Z2 ⟨rfl, kz⟩; have G2 := Lib.hid (G1.out.2.trans kz); clear kz
          go_wp2_with fail
          refine hK.out _ _ (Lib.hid G2.out) (fun hHeld3 => ?_)
          clear hK K hHeld2
          try simp only [Act.put, List.setIfInBounds_toArray, List.set_cons_zero, List.set_cons_succ, List.getElem_toArray, List.getElem_cons_zero, List.getElem_cons_succ]
          refine wpAnyH_take (i := 7) (v := ?_) rfl (by kernel_rfl) (by kernel_rfl) (by kernel_rfl) (fun _ _ _ h => h) (Or.inl ⟨by rfl, ?_⟩) hHeld3 ?_
          rotate_left
          · intro w hSw
            have hSw1 := hSw
            clear hSw
            try dsimp only at hSw1
            go_simp
            try (with_reducible rfl)
          try simp only [Act.put, List.setIfInBounds_toArray, List.set_cons_zero, List.set_cons_succ, List.getElem_toArray, List.getElem_cons_zero, List.getElem_cons_succ]
          refine wpAnyH_take (i := 8) (v := ?_) rfl (by kernel_rfl) (by kernel_rfl) (by kernel_rfl) (fun _ _ _ h => h) (Or.inl ⟨by rfl, ?_⟩) hHeld3 ?_
          rotate_left
          · intro w hSw
            have hSw1 := hSw
            clear hSw
            try dsimp only at hSw1
            go_simp
            try (with_reducible rfl)
          try simp only [Act.put, List.setIfInBounds_toArray, List.set_cons_zero, List.set_cons_succ, List.getElem_toArray, List.getElem_cons_zero, List.getElem_cons_succ]
          refine wpAnyH_done (by kernel_rfl) ?_ _
          go_wp2_with fail
          exact bodyPost_ret (results_tmp rfl _ _ _) rfl ⟨rfl, (H9.out.2.2.1.trans G2.out)⟩
        · cases h8
      · have h0d : (ee == 0) = false := by simp [h0]
        clear hse
        go_wp2_with fail
        exact bodyPost_ret (results_tmp rfl _ _ _) rfl ⟨rfl, H5.out.2.2⟩

theorem ReqBytes_walk (v0 : Value) (w : World) {b : Nat} (h0 : Value.okWide Try.prog w .any b 29 v0) (o0 : Op Try.prog w 29 v0.cells.toList) :
    Calls Try.prog 3 #[v0] w fun e w' => e = .returned (.bool true) ∧ Below w.heap.size w w' := by
  obtain ⟨x, a1, c1, a2, c2, a3, c3, rfl, hr, hb⟩ := cmd_in h0 o0
  exact (bytes20_any x a1 a2 a3 c1 c2 c3 w hr hb).mono fun e w' ⟨h1, h2⟩ => ⟨h1, h2.below0⟩
set_option maxRecDepth 100000 in
theorem ReqBytes_lifted (os : Os) (started : os.Started) (H : Type) (enc : TypeId × Value → H) :
    ReturnsInHanded {} Try.checked os 3 .any (Rows.reqBytesSpec.pre6 enc Try.prog Try.f3 Rows.reqBytesRow.domain false) (Rows.reqBytesSpec.post enc Try.prog Try.f3 false true false false) := by
  refine returnsInHanded_of_change_sized (C := Try.checked) (by kernel_rfl) started (by kernel_rfl) Try.func3
    (ChangeSpec.witness6 (enc := enc) (C := Try.checked) false ⟨#[], #[.agg #[.int .i64 0, .int .i64 0, .string ⟨#[]⟩, .int .i64 0, .string ⟨#[]⟩, .string ⟨#[]⟩, .string ⟨#[]⟩, .string ⟨#[]⟩, .int .i64 0, .int .i64 0, .string ⟨#[]⟩, .string ⟨#[]⟩, .bool false, .bool false, .int .i64 0, .slice none 0 0, .slice none 0 0, .slice none 0 0]], []⟩ 8 (by kernel_rfl) (by kernel_rfl) (by kernel_rfl) (by kernel_rfl)) ?_
  intro W base args ds gs before hval0 hW hcnd hsz0 _
  have hval : ∀ (j : Nat) t v, Try.f3.params[j]? = some t → args[j]? = some v → Value.okWide Try.prog W .any base t v := hval0
  have hsz : (DataW.weightsEach Try.prog (Try.f3.params.toList ++ Rows.reqBytesSpec.plain.varTypes Try.prog) (ds ++ gs)).all (· ≤ reachBytes) = true := hsz0
  have hW' := hW
  obtain ⟨p, q, hA0, hV, rfl, hfz, hnd⟩ := hW
  have hA : DataW.TrodAll enc Try.prog W 0 (fun _ => true) true Try.f3.params.toList args.toList ds p := hA0
  rw [Try.params3] at hA hval hsz
  obtain ⟨v0, vs0, d0, ds0, p0, q0, hargs, rfl, rfl, h0, r0⟩ := trodAll_cons hA
  obtain ⟨rfl, rfl, rfl⟩ := trodAll_nil r0
  obtain rfl : args = #[v0] := by cases args; simp_all
  obtain ⟨rfl, rfl⟩ := trodVars_none hV
  have lt0 : ∀ x ∈ p0, x.block < W.heap.size := by obtain ⟨m, hm⟩ := h0; exact DataW.trod_lt m _ _ _ hm
  have o0 := op_of hsz (j := 0) rfl rfl h0
  refine (ReqBytes_walk v0 W (hval 0 _ v0 rfl rfl) o0).mono fun e W' ⟨he, bel⟩ => ?_
  subst he
  exact ⟨_, rfl, _, _, _, [], _, [], hW', trodAll_mk1 (shut_bool Try.underlying4 _), (trodAll_cons_mk (Below.trod (by kernel_rfl) (by kernel_rfl) (of_decide_eq_true (by kernel_rfl)) h0 bel lt0) trodAll_mk0), rfl, bel.frame _, fun h => by cases h⟩

/-- The statement. -/
theorem ReqBytes_holds : Rows.ReqBytesSaid :=
  OpenClaim.holds_of_wide 3 Try.f3 rfl rfl rfl rfl rfl rfl rfl ⟨rfl, rfl, rfl, rfl, rfl⟩ rfl rfl rfl rfl rfl (by kernel_rfl) Try.func3 (by kernel_rfl)
    (of_decide_eq_true (by kernel_rfl)) (by unfold Func.isWrapper; rw [if_neg (of_decide_eq_false (by kernel_rfl))]; exact ⟨rfl, rfl⟩)
    (fun os started H enc _ => ReqBytes_lifted os started H enc)
#print axioms ReqBytes_holds
end Go.Proofs.Ytifjnpdnnfdcoaa
