/-
  ReqFlats: any flat form makes the request of its kind, whose flat form has just the fields of that; others make none. No condition beyond the row's.
-/
import Derived.Test.YtifjnpdnnfdcoaaReqT
import Derived.Test.YtifjnpdnnfdcoaaReqS
import Derived.Test.YtifjnpdnnfdcoaaReqO
import Derived.Test.YtifjnpdnnfdcoaaReqP
import Derived.Test.YtifjnpdnnfdcoaaReqQ
import Derived.Test.YtifjnpdnnfdcoaaReqOpen
import Derived.Test.YtifjnpdnnfdcoaaRows
namespace Go.Proofs.Ytifjnpdnnfdcoaa
open Go.RowKit Go.Lib Go.ChangeShapes Go.WideShapes Go.ChangeAt
set_option linter.unusedSimpArgs false
set_option linter.unusedVariables false
set_option maxRecDepth 100000

theorem LenC.of_small {x : Cm} (h : Small x) : LenC x := ⟨by have := h.li; omega, by have := h.lt; omega, by have := h.le; omega⟩
set_option maxHeartbeats 8000000 in
theorem flats20_any (x : Cm) (a1 a2 a3 : Option Addr) (c1 c2 c3 : Nat) (w : World) (hr : RdC w x a1 a2 a3) :
    Calls Try.prog 6 #[cmV x (.slice a1 x.ifs.length c1) (.slice a2 x.thens.length c2) (.slice a3 x.elses.length c3)] w fun e w' => e = .returned (.bool true) ∧ Step [] [] w w' := by
  have H00 : Hid (Blk (w.alloc (.cells (cmc x (.slice a1 x.ifs.length c1) (.slice a2 x.thens.length c2) (.slice a3 x.elses.length c3)).toArray 29)) w.heap.size 29 (cmc x (.slice a1 x.ifs.length c1) (.slice a2 x.thens.length c2) (.slice a3 x.elses.length c3)).toArray ∧ RdC (w.alloc (.cells (cmc x (.slice a1 x.ifs.length c1) (.slice a2 x.thens.length c2) (.slice a3 x.elses.length c3)).toArray 29)) x a1 a2 a3 ∧ Step [] [] w (w.alloc (.cells (cmc x (.slice a1 x.ifs.length c1) (.slice a2 x.thens.length c2) (.slice a3 x.elses.length c3)).toArray 29))) := Lib.hid ⟨Blk.new w _ _, hr.step ((Step.refl [] w).alloc _), (Step.refl [] w).alloc _⟩
  clear hr
  go_enter Try.func6, Try.ntmps6
  go_upto_region 1 with fail
  change Code.wp _ _ _ _ (w.alloc (.cells (cmc x (.slice a1 x.ifs.length c1) (.slice a2 x.thens.length c2) (.slice a3 x.elses.length c3)).toArray 29))
  obtain ⟨b, hb⟩ : ∃ b, b = w.heap.size := ⟨_, rfl⟩
  obtain ⟨V, hV⟩ : ∃ V, V = (w.alloc (.cells (cmc x (.slice a1 x.ifs.length c1) (.slice a2 x.thens.length c2) (.slice a3 x.elses.length c3)).toArray 29)) := ⟨_, rfl⟩
  rw [← hV, ← hb] at H00
  have H0 := H00
  rw [← hV]
  try rw [← hb]
  clear hV hb H00
  go_wp2_with fail
  refine (awake20_true V).mono ?_
  rintro e w1 ⟨rfl, k1⟩
  have H1 : Hid (Blk w1 b 29 (cmc x (.slice a1 x.ifs.length c1) (.slice a2 x.thens.length c2) (.slice a3 x.elses.length c3)).toArray ∧ RdC w1 x a1 a2 a3 ∧ Step [] [] w w1) := Lib.hid ⟨H0.out.1.step k1 (by simp), H0.out.2.1.step k1, H0.out.2.2.trans k1⟩
  clear k1 H0
  go_wp2_with (refine wpList_loadRow (T := 29) (b := b) (T' := 29) (cs := (cmc x (.slice a1 x.ifs.length c1) (.slice a2 x.thens.length c2) (.slice a3 x.elses.length c3)).toArray) rfl (.tmp 1) rfl rfl Try.sCmd H1.out.1 ?_)
  refine (great_any x a1 a2 a3 c1 c2 c3 w1 H1.out.2.1).mono ?_
  rintro e w2 ⟨g, rfl, hg, k2⟩
  have H2 : Hid (Blk w2 b 29 (cmc x (.slice a1 x.ifs.length c1) (.slice a2 x.thens.length c2) (.slice a3 x.elses.length c3)).toArray ∧ RdC w2 x a1 a2 a3 ∧ Step [] [] w w2) := Lib.hid ⟨H1.out.1.step k2 (by simp), H1.out.2.1.step k2, H1.out.2.2.trans k2⟩
  clear k2 H1
  cases g with
  | true =>
    go_wp2_with fail
    exact bodyPost_ret (results_tmp rfl _ _ _) rfl ⟨rfl, H2.out.2.2⟩
  | false =>
    have HS := Lib.hid (hg rfl)
    clear hg
    cases hik : isK x.kind with
    | false =>
      have HK := Lib.hid hik
      clear hik
      go_wp2_with (refine wpList_loadRow (T := 29) (b := b) (T' := 29) (cs := (cmc x (.slice a1 x.ifs.length c1) (.slice a2 x.thens.length c2) (.slice a3 x.elses.length c3)).toArray) rfl (.tmp 1) rfl rfl Try.sCmd H2.out.1 ?_)
      refine (of_none x a1 a2 a3 c1 c2 c3 w2 HK.out).mono ?_
      rintro e w3 ⟨rfl, k3⟩
      go_upto_region 6 with fail
      have k4 := k3.alloc (.cells #[.int .i64 0, .int .i64 0, .string ⟨#[]⟩, .nilIface] 35)
      have b4 := Blk.new w3 35 #[.int .i64 0, .int .i64 0, .string ⟨#[]⟩, .nilIface]
      obtain ⟨b3, hb3⟩ : ∃ b3, b3 = w3.heap.size := ⟨_, rfl⟩
      obtain ⟨V3, hV3⟩ : ∃ V3, V3 = w3.alloc (.cells #[.int .i64 0, .int .i64 0, .string ⟨#[]⟩, .nilIface] 35) := ⟨_, rfl⟩
      rw [← hV3] at k4 b4 ⊢
      rw [← hb3] at b4 ⊢
      clear hb3 hV3 k3
      have H3 : Hid (Blk V3 b 29 (cmc x (.slice a1 x.ifs.length c1) (.slice a2 x.thens.length c2) (.slice a3 x.elses.length c3)).toArray ∧ RdC V3 x a1 a2 a3 ∧ Step [] [] w V3 ∧ Blk V3 b3 35 #[.int .i64 0, .int .i64 0, .string ⟨#[]⟩, .nilIface]) := Lib.hid ⟨H2.out.1.step k4 (by simp), H2.out.2.1.step k4, H2.out.2.2.trans k4, b4⟩
      clear k4 b4 H2
      go_wp2_with (refine wpList_loadRow (T := 29) (b := b) (T' := 29) (cs := (cmc x (.slice a1 x.ifs.length c1) (.slice a2 x.thens.length c2) (.slice a3 x.elses.length c3)).toArray) rfl (.tmp 1) rfl rfl Try.sCmd H3.out.1 ?_)
      refine (rclean_any x a1 a2 a3 c1 c2 c3 V3 H3.out.2.1 (LenC.of_small HS.out)).mono ?_
      rintro e w4 ⟨d1, e1, d2, e2, d3, e3, rfl, r4, k5⟩
      rw [HK.out]
      have HN : Hid (Blk (w4.alloc (.cells cmZ18 29)) w4.heap.size 29 cmZ18) := Lib.hid (Blk.new w4 _ _)
      have H4 : Hid (Step [] [] w w4 ∧ Blk w4 b3 35 #[.int .i64 0, .int .i64 0, .string ⟨#[]⟩, .nilIface]) := Lib.hid ⟨H3.out.2.2.1.trans k5, H3.out.2.2.2.step k5 (by simp)⟩
      clear k5 r4 H3
      go_upto_region 7 with (refine wpList_storeRow (T := 29) (b := w4.heap.size) (T' := 29) (cs := cmZ18) (vs := (cmc (cleanC x) (.slice d1 (cleanC x).ifs.length e1) (.slice d2 (cleanC x).thens.length e2) (.slice d3 (cleanC x).elses.length e3)).toArray) rfl (.tmp 5) (.tmp 19) rfl rfl rfl Try.sCmd HN.out rfl (cmc_one _ _ _ _ rfl rfl rfl) ?_; intro U hU ss)
      have H5 : Hid (Step [] [] w U ∧ Blk U b3 35 #[.int .i64 0, .int .i64 0, .string ⟨#[]⟩, .nilIface]) := Lib.hid ⟨(H4.out.1.alloc _).out1' ss (by have := H4.out.1.size; simp; omega), (H4.out.2.alloc _).step ss (by have := H4.out.2.lt; simp; omega)⟩
      clear hU ss HN H4
      have z0 := H5.out.2.cell 0
      have z3 := H5.out.2.cell 3
      have zl := H5.out.2.lt
      simp only [List.getElem?_toArray, List.getElem?_cons_zero, List.getElem?_cons_succ] at z0 z3
      go_wp2_with fail
      exact bodyPost_ret (results_tmp rfl _ _ _) rfl ⟨rfl, H5.out.1⟩
    | true =>
      have HK := Lib.hid hik
      clear hik
      go_wp2_with (refine wpList_loadRow (T := 29) (b := b) (T' := 29) (cs := (cmc x (.slice a1 x.ifs.length c1) (.slice a2 x.thens.length c2) (.slice a3 x.elses.length c3)).toArray) rfl (.tmp 1) rfl rfl Try.sCmd H2.out.1 ?_)
      refine (of_any x a1 a2 a3 c1 c2 c3 w2 HK.out H2.out.2.1 (LenC.of_small HS.out)).mono ?_
      rintro e w3 ⟨m, rfl, hm, k3⟩
      obtain ⟨y, hy⟩ : ∃ y, y = cleanC x := ⟨_, rfl⟩
      have HY := Lib.hid hy
      rw [← hy] at hm
      obtain ⟨T, u, FF, hv, hkb⟩ := hm.kindBy
      subst hv
      have HL : Hid (LenC y) := Lib.hid hm.len
      have HK2 := Lib.hid hkb
      have HM0 := Lib.hid hm
      clear hkb hm hy
      go_upto_region 6 with fail
      obtain ⟨rc, hrc⟩ : ∃ rc : Array Value, rc = #[.int .i64 y.client, .int .i64 y.seq, .string ⟨y.token.toArray⟩, .iface T u] := ⟨_, rfl⟩
      have k4 := k3.alloc (.cells #[.int .i64 y.client, .int .i64 y.seq, .string ⟨y.token.toArray⟩, .iface T u] 35)
      have b4 := Blk.new w3 35 #[.int .i64 y.client, .int .i64 y.seq, .string ⟨y.token.toArray⟩, .iface T u]
      have HM := Lib.hid (HM0.out.step ((Step.refl [] w3).alloc (.cells #[.int .i64 y.client, .int .i64 y.seq, .string ⟨y.token.toArray⟩, .iface T u] 35)))
      obtain ⟨b3, hb3⟩ : ∃ b3, b3 = w3.heap.size := ⟨_, rfl⟩
      obtain ⟨V3, hV3⟩ : ∃ V3, V3 = w3.alloc (.cells #[.int .i64 y.client, .int .i64 y.seq, .string ⟨y.token.toArray⟩, .iface T u] 35) := ⟨_, rfl⟩
      rw [← hV3] at k4 b4 HM ⊢
      rw [← hb3] at b4 ⊢
      clear hb3 hV3 k3 HM0
      have H3 : Hid (Blk V3 b 29 (cmc x (.slice a1 x.ifs.length c1) (.slice a2 x.thens.length c2) (.slice a3 x.elses.length c3)).toArray ∧ RdC V3 x a1 a2 a3 ∧ Step [] [] w V3 ∧ Blk V3 b3 35 #[.int .i64 y.client, .int .i64 y.seq, .string ⟨y.token.toArray⟩, .iface T u]) := Lib.hid ⟨H2.out.1.step k4 (by simp), H2.out.2.1.step k4, H2.out.2.2.trans k4, b4⟩
      clear k4 b4 H2 hrc rc
      go_wp2_with (refine wpList_loadRow (T := 29) (b := b) (T' := 29) (cs := (cmc x (.slice a1 x.ifs.length c1) (.slice a2 x.thens.length c2) (.slice a3 x.elses.length c3)).toArray) rfl (.tmp 1) rfl rfl Try.sCmd H3.out.1 ?_)
      refine (rclean_any x a1 a2 a3 c1 c2 c3 V3 H3.out.2.1 (LenC.of_small HS.out)).mono ?_
      rintro e w4 ⟨d1, e1, d2, e2, d3, e3, rfl, r4, k5⟩
      rw [HK.out]
      rw [← HY.out] at r4 ⊢
      have HKD : Hid (y.kind = x.kind) := Lib.hid (by rw [HY.out]; exact clean_kind HK.out)
      have HN : Hid (Blk (w4.alloc (.cells cmZ18 29)) w4.heap.size 29 cmZ18) := Lib.hid (Blk.new w4 _ _)
      have H4 : Hid (Blk w4 b 29 (cmc x (.slice a1 x.ifs.length c1) (.slice a2 x.thens.length c2) (.slice a3 x.elses.length c3)).toArray ∧ Blk w4 b3 35 #[.int .i64 y.client, .int .i64 y.seq, .string ⟨y.token.toArray⟩, .iface T u] ∧ RdC w4 y d1 d2 d3 ∧ Step [] [] V3 w4 ∧ Step [] [] w w4) := Lib.hid ⟨H3.out.1.step k5 (by simp), H3.out.2.2.2.step k5 (by simp), r4, k5, H3.out.2.2.1.trans k5⟩
      have HVS : Hid (V3.heap.size ≤ w4.heap.size ∧ w.heap.size ≤ w4.heap.size) := Lib.hid ⟨k5.size, H4.out.2.2.2.2.size⟩
      clear k5 r4 H3
      go_upto_region 7 with (refine wpList_storeRow (T := 29) (b := w4.heap.size) (T' := 29) (cs := cmZ18) (vs := (cmc y (.slice d1 y.ifs.length e1) (.slice d2 y.thens.length e2) (.slice d3 y.elses.length e3)).toArray) rfl (.tmp 5) (.tmp 19) rfl rfl rfl Try.sCmd HN.out rfl (cmc_one _ _ _ _ rfl rfl rfl) ?_; intro U hU ss)
      obtain ⟨b5, hb5⟩ : ∃ b5, b5 = w4.heap.size := ⟨_, rfl⟩
      have kk : Step [] [] w4 U := ((Step.refl [] w4).alloc _).out1' ss (by simp)
      rw [← hb5] at hU ⊢
      have H5 : Hid (Blk U b 29 (cmc x (.slice a1 x.ifs.length c1) (.slice a2 x.thens.length c2) (.slice a3 x.elses.length c3)).toArray ∧ Blk U b3 35 #[.int .i64 y.client, .int .i64 y.seq, .string ⟨y.token.toArray⟩, .iface T u] ∧ Blk U b5 29 (cmc y (.slice d1 y.ifs.length e1) (.slice d2 y.thens.length e2) (.slice d3 y.elses.length e3)).toArray ∧ RdC U y d1 d2 d3 ∧ Step [] [] V3 U ∧ Step [] [] w U) := Lib.hid ⟨H4.out.1.step kk (by simp), H4.out.2.1.step kk (by simp), hU, H4.out.2.2.1.step kk, H4.out.2.2.2.1.trans kk, H4.out.2.2.2.2.trans kk⟩
      clear hU ss HN H4 kk hb5
      have m1 := HK2.out.method
      have m2 := HK2.out.ahead
      have m3 := HK2.out.enter
      have HKC : Hid (∀ W, Calls Try.prog FF #[u] W fun e w' => e = .returned (.int .i64 x.kind) ∧ Step [] [] W w') := Lib.hid (by rw [← HKD.out]; exact HK2.out.call)
      go_upto_region 9 with fail
      have H6 : Hid (Step [] [] U U) := Lib.hid (Step.refl _ _)
      refine wp_region_held_drew (S := fun W => Hid (Step [] [] U W)) (by kernel_rfl) (Lib.hid ((Step.refl [] U).drew)) (fun hHeld => ?_)
      refine wpAnyH_take (i := 0) (v := ?_) rfl (by kernel_rfl) (by kernel_rfl) (by kernel_rfl) (fun _ _ _ h => h) (Or.inl ⟨by rfl, ?_⟩) hHeld ?_
      rotate_left
      · intro w hSw
        have hSw1 := hSw
        clear hSw
        try dsimp only at hSw1
        go_simp
        try (with_reducible rfl)
      try simp only [Act.put, List.setIfInBounds_toArray, List.set_cons_zero, List.set_cons_succ, List.getElem_toArray, List.getElem_cons_zero, List.getElem_cons_succ]
      refine wpAnyH_take (i := 1) (v := ?_) rfl (by kernel_rfl) (by kernel_rfl) (by kernel_rfl) (fun _ _ _ h => h) (Or.inl ⟨by rfl, ?_⟩) hHeld ?_
      rotate_left
      · intro w hSw
        have hSw1 := hSw
        clear hSw
        try dsimp only at hSw1
        go_simp
        try (with_reducible rfl)
      try simp only [Act.put, List.setIfInBounds_toArray, List.set_cons_zero, List.set_cons_succ, List.getElem_toArray, List.getElem_cons_zero, List.getElem_cons_succ]
      refine wpAnyH_take (i := 2) (v := ?_) rfl (by kernel_rfl) (by kernel_rfl) (by kernel_rfl) (fun _ _ _ h => h) (Or.inl ⟨by rfl, ?_⟩) hHeld ?_
      rotate_left
      · intro w hSw
        have hSw1 := hSw
        clear hSw
        try dsimp only at hSw1
        go_simp
        try (with_reducible rfl)
      try simp only [Act.put, List.setIfInBounds_toArray, List.set_cons_zero, List.set_cons_succ, List.getElem_toArray, List.getElem_cons_zero, List.getElem_cons_succ]
      refine wpAnyH_take (i := 3) (v := ?_) rfl (by kernel_rfl) (by kernel_rfl) (by kernel_rfl) (fun _ _ _ h => h) (Or.inl ⟨by rfl, ?_⟩) hHeld ?_
      rotate_left
      · intro w hSw
        have hSw1 := hSw
        clear hSw
        have tc := (H5.out.2.1.step hSw1.out (by simp)).cell
        have t3 := tc 3
        clear tc
        simp only [cmc, List.getElem?_toArray, List.getElem?_cons_zero, List.getElem?_cons_succ] at t3
        have tl := (H5.out.2.1.step hSw1.out (by simp)).lt
        go_simp
        try (with_reducible rfl)
      try simp only [Act.put, List.setIfInBounds_toArray, List.set_cons_zero, List.set_cons_succ, List.getElem_toArray, List.getElem_cons_zero, List.getElem_cons_succ]
      refine wpAnyH_take (i := 4) (v := ?_) rfl (by kernel_rfl) (by kernel_rfl) (by kernel_rfl) (fun _ _ _ h => h) (Or.inl ⟨by rfl, ?_⟩) hHeld ?_
      rotate_left
      · intro w hSw
        have hSw1 := hSw
        clear hSw
        try dsimp only at hSw1
        go_simp
        try (with_reducible rfl)
      try simp only [Act.put, List.setIfInBounds_toArray, List.set_cons_zero, List.set_cons_succ, List.getElem_toArray, List.getElem_cons_zero, List.getElem_cons_succ]
      refine wpAnyH_take (i := 5) (v := ?_) rfl (by kernel_rfl) (by kernel_rfl) (by kernel_rfl) (fun _ _ _ h => h) (Or.inl ⟨by rfl, ?_⟩) hHeld ?_
      rotate_left
      · intro w hSw
        have hSw1 := hSw
        clear hSw
        try dsimp only at hSw1
        go_simp
        try (with_reducible rfl)
      try simp only [Act.put, List.setIfInBounds_toArray, List.set_cons_zero, List.set_cons_succ, List.getElem_toArray, List.getElem_cons_zero, List.getElem_cons_succ]
      refine wpAnyH_take (i := 6) (v := ?_) rfl (by kernel_rfl) (by kernel_rfl) (by kernel_rfl) (fun _ _ _ h => h) (Or.inl ⟨by rfl, ?_⟩) hHeld ?_
      rotate_left
      · intro w hSw
        have hSw1 := hSw
        clear hSw
        try dsimp only at hSw1
        go_simp
        try (with_reducible rfl)
      try simp only [Act.put, List.setIfInBounds_toArray, List.set_cons_zero, List.set_cons_succ, List.getElem_toArray, List.getElem_cons_zero, List.getElem_cons_succ]
      refine wpAnyH_take (i := 7) (v := ?_) rfl (by kernel_rfl) (by kernel_rfl) (by kernel_rfl) (fun _ _ _ h => h) (Or.inl ⟨by rfl, ?_⟩) hHeld ?_
      rotate_left
      · intro w hSw
        have hSw1 := hSw
        clear hSw
        try dsimp only at hSw1
        go_simp
        try (with_reducible rfl)
      try simp only [Act.put, List.setIfInBounds_toArray, List.set_cons_zero, List.set_cons_succ, List.getElem_toArray, List.getElem_cons_zero, List.getElem_cons_succ]
      refine wpAnyH_take (i := 8) (v := ?_) rfl (by kernel_rfl) (by kernel_rfl) (by kernel_rfl) (fun _ _ _ h => h) (Or.inl ⟨by rfl, ?_⟩) hHeld ?_
      rotate_left
      · intro w hSw
        have hSw1 := hSw
        clear hSw
        have tc := (H5.out.2.1.step hSw1.out (by simp)).cell
        have t3 := tc 3
        clear tc
        simp only [cmc, List.getElem?_toArray, List.getElem?_cons_zero, List.getElem?_cons_succ] at t3
        have tl := (H5.out.2.1.step hSw1.out (by simp)).lt
        go_simp
        try (with_reducible rfl)
      try simp only [Act.put, List.setIfInBounds_toArray, List.set_cons_zero, List.set_cons_succ, List.getElem_toArray, List.getElem_cons_zero, List.getElem_cons_succ]
      refine wpAnyH_take (i := 10) (v := ?_) rfl (by kernel_rfl) (by kernel_rfl) (by kernel_rfl) (fun _ _ _ h => h) (Or.inl ⟨by rfl, ?_⟩) hHeld ?_
      rotate_left
      · intro w hSw
        have hSw1 := hSw
        clear hSw
        try dsimp only at hSw1
        go_simp
        try (with_reducible rfl)
      try simp only [Act.put, List.setIfInBounds_toArray, List.set_cons_zero, List.set_cons_succ, List.getElem_toArray, List.getElem_cons_zero, List.getElem_cons_succ]
      refine wpAnyH_take (i := 11) (v := ?_) rfl (by kernel_rfl) (by kernel_rfl) (by kernel_rfl) (fun _ _ _ h => h) (Or.inl ⟨by rfl, ?_⟩) hHeld ?_
      rotate_left
      · intro w hSw
        have hSw1 := hSw
        clear hSw
        have tc := (H5.out.1.step hSw1.out (by simp)).cell
        have t3 := tc 3
        clear tc
        simp only [cmc, List.getElem?_toArray, List.getElem?_cons_zero, List.getElem?_cons_succ] at t3
        have tl := (H5.out.1.step hSw1.out (by simp)).lt
        go_simp
        try (with_reducible rfl)
      try simp only [Act.put, List.setIfInBounds_toArray, List.set_cons_zero, List.set_cons_succ, List.getElem_toArray, List.getElem_cons_zero, List.getElem_cons_succ]
      refine wpAnyH_ready (rs := [9]) (by kernel_rfl) (by simp) ?_
      refine AllReadyH.cons rfl (fun K hK => ?_) AllReadyH.nil
      go_simp
      refine (HKC.out _).mono ?_; rintro e U1 ⟨rfl, k1⟩; have G1 := Lib.hid (hHeld.out.trans k1); clear k1
      go_wp2_with fail
      refine hK.out _ _ (Lib.hid G1.out) (fun hHeld2 => ?_)
      clear hK K hHeld
      try simp only [Act.put, List.setIfInBounds_toArray, List.set_cons_zero, List.set_cons_succ, List.getElem_toArray, List.getElem_cons_zero, List.getElem_cons_succ]
      refine wpAnyH_take (i := 12) (v := ?_) rfl (by kernel_rfl) (by kernel_rfl) (by kernel_rfl) (fun _ _ _ h => h) (Or.inl ⟨by rfl, ?_⟩) hHeld2 ?_
      rotate_left
      · intro w hSw
        have hSw1 := hSw
        clear hSw
        try dsimp only at hSw1
        go_simp
        try (with_reducible rfl)
      try simp only [Act.put, List.setIfInBounds_toArray, List.set_cons_zero, List.set_cons_succ, List.getElem_toArray, List.getElem_cons_zero, List.getElem_cons_succ]
      refine wpAnyH_take (i := 13) (v := ?_) rfl (by kernel_rfl) (by kernel_rfl) (by kernel_rfl) (fun _ _ _ h => h) (Or.inl ⟨by rfl, ?_⟩) hHeld2 ?_
      rotate_left
      · intro w hSw
        have hSw1 := hSw
        clear hSw
        try dsimp only at hSw1
        go_simp
        try (with_reducible rfl)
      try simp only [Act.put, List.setIfInBounds_toArray, List.set_cons_zero, List.set_cons_succ, List.getElem_toArray, List.getElem_cons_zero, List.getElem_cons_succ]
      refine wpAnyH_take (i := 14) (v := ?_) rfl (by kernel_rfl) (by kernel_rfl) (by kernel_rfl) (fun _ _ _ h => h) (Or.inl ⟨by rfl, ?_⟩) hHeld2 ?_
      rotate_left
      · intro w hSw
        have hSw1 := hSw
        clear hSw
        try dsimp only at hSw1
        go_simp
        try (with_reducible rfl)
      try simp only [Act.put, List.setIfInBounds_toArray, List.set_cons_zero, List.set_cons_succ, List.getElem_toArray, List.getElem_cons_zero, List.getElem_cons_succ]
      refine wpAnyH_take (i := 15) (v := ?_) rfl (by kernel_rfl) (by kernel_rfl) (by kernel_rfl) (fun _ _ _ h => h) (Or.inl ⟨by rfl, ?_⟩) hHeld2 ?_
      rotate_left
      · intro w hSw
        have hSw1 := hSw
        clear hSw
        have tc := (H5.out.2.1.step hSw1.out (by simp)).cell
        have t0 := tc 0
        have t1 := tc 1
        have t2 := tc 2
        have t3 := tc 3
        clear tc
        simp only [cmc, List.getElem?_toArray, List.getElem?_cons_zero, List.getElem?_cons_succ] at t0 t1 t2 t3
        have tl := (H5.out.2.1.step hSw1.out (by simp)).lt
        go_simp
        try (with_reducible rfl)
      try simp only [Act.put, List.setIfInBounds_toArray, List.set_cons_zero, List.set_cons_succ, List.getElem_toArray, List.getElem_cons_zero, List.getElem_cons_succ]
      refine wpAnyH_take (i := 17) (v := ?_) rfl (by kernel_rfl) (by kernel_rfl) (by kernel_rfl) (fun _ _ _ h => h) (Or.inl ⟨by rfl, ?_⟩) hHeld2 ?_
      rotate_left
      · intro w hSw
        have hSw1 := hSw
        clear hSw
        have tc := (H5.out.2.2.1.step hSw1.out (by simp)).cell
        have t0 := tc 0
        have t1 := tc 1
        have t2 := tc 2
        have t3 := tc 3
        have t4 := tc 4
        have t5 := tc 5
        have t6 := tc 6
        have t7 := tc 7
        have t8 := tc 8
        have t9 := tc 9
        have t10 := tc 10
        have t11 := tc 11
        have t12 := tc 12
        have t13 := tc 13
        have t14 := tc 14
        have t15 := tc 15
        have t16 := tc 16
        have t17 := tc 17
        clear tc
        simp only [cmc, List.getElem?_toArray, List.getElem?_cons_zero, List.getElem?_cons_succ] at t0 t1 t2 t3 t4 t5 t6 t7 t8 t9 t10 t11 t12 t13 t14 t15 t16 t17
        have tl := (H5.out.2.2.1.step hSw1.out (by simp)).lt
        go_simp
        try (with_reducible rfl)
      try simp only [Act.put, List.setIfInBounds_toArray, List.set_cons_zero, List.set_cons_succ, List.getElem_toArray, List.getElem_cons_zero, List.getElem_cons_succ]
      refine wpAnyH_ready (rs := [16]) (by kernel_rfl) (by simp) ?_
      refine AllReadyH.cons rfl (fun K hK => ?_) AllReadyH.nil
      go_simp
      refine (HM.out.flat _ (H5.out.2.2.2.2.1.trans hHeld2.out)).mono ?_; rintro e U2 ⟨f1, g1, f2, g2, f3, g3, rfl, q2, k2⟩; have G2 := Lib.hid (And.intro q2 (hHeld2.out.trans k2)); clear q2 k2
      go_wp2_with fail
      refine hK.out _ _ (Lib.hid G2.out.2) (fun hHeld3 => ?_)
      clear hK K hHeld2
      try simp only [Act.put, List.setIfInBounds_toArray, List.set_cons_zero, List.set_cons_succ, List.getElem_toArray, List.getElem_cons_zero, List.getElem_cons_succ]
      refine wpAnyH_ready (rs := [18]) (by kernel_rfl) (by simp) ?_
      refine AllReadyH.cons rfl (fun K hK => ?_) AllReadyH.nil
      go_simp
      refine (sameC_any y f1 f2 f3 d1 d2 d3 g1 g2 g3 e1 e2 e3 _ G2.out.1 (H5.out.2.2.2.1.step G2.out.2) HL.out).mono ?_; rintro e U3 ⟨rfl, k3⟩; have G3 := Lib.hid (G2.out.2.trans k3); clear k3
      go_wp2_with fail
      refine hK.out _ _ (Lib.hid G3.out) (fun hHeld4 => ?_)
      clear hK K hHeld3
      try simp only [Act.put, List.setIfInBounds_toArray, List.set_cons_zero, List.set_cons_succ, List.getElem_toArray, List.getElem_cons_zero, List.getElem_cons_succ]
      refine wpAnyH_take (i := 19) (v := ?_) rfl (by kernel_rfl) (by kernel_rfl) (by kernel_rfl) (fun _ _ _ h => h) (Or.inl ⟨by rfl, ?_⟩) hHeld4 ?_
      rotate_left
      · intro w hSw
        have hSw1 := hSw
        clear hSw
        try dsimp only at hSw1
        go_simp
        try (with_reducible rfl)
      try simp only [Act.put, List.setIfInBounds_toArray, List.set_cons_zero, List.set_cons_succ, List.getElem_toArray, List.getElem_cons_zero, List.getElem_cons_succ]
      refine wpAnyH_take (i := 20) (v := ?_) rfl (by kernel_rfl) (by kernel_rfl) (by kernel_rfl) (fun _ _ _ h => h) (Or.inl ⟨by rfl, ?_⟩) hHeld4 ?_
      rotate_left
      · intro w hSw
        have hSw1 := hSw
        clear hSw
        try dsimp only at hSw1
        go_simp
        try (with_reducible rfl)
      try simp only [Act.put, List.setIfInBounds_toArray, List.set_cons_zero, List.set_cons_succ, List.getElem_toArray, List.getElem_cons_zero, List.getElem_cons_succ]
      refine wpAnyH_done (by kernel_rfl) ?_ _
      go_wp2_with fail
      exact bodyPost_ret (results_tmp rfl _ _ _) rfl ⟨rfl, H5.out.2.2.2.2.2.trans G3.out⟩

theorem ReqFlats_walk (v0 : Value) (w : World) {b : Nat} (h0 : Value.okWide Try.prog w .any b 29 v0) (o0 : Op Try.prog w 29 v0.cells.toList) :
    Calls Try.prog 6 #[v0] w fun e w' => e = .returned (.bool true) ∧ Below w.heap.size w w' := by
  obtain ⟨x, a1, c1, a2, c2, a3, c3, rfl, hr, hb⟩ := cmd_in h0 o0
  exact (flats20_any x a1 a2 a3 c1 c2 c3 w hr).mono fun e w' ⟨h1, h2⟩ => ⟨h1, h2.below0⟩
set_option maxRecDepth 100000 in
theorem ReqFlats_lifted (os : Os) (started : os.Started) (H : Type) (enc : TypeId × Value → H) :
    ReturnsInHanded {} Try.checked os 6 .any (Rows.reqFlatsSpec.pre6 enc Try.prog Try.f6 Rows.reqFlatsRow.domain false) (Rows.reqFlatsSpec.post enc Try.prog Try.f6 false true false false) := by
  refine returnsInHanded_of_change_sized (C := Try.checked) (by kernel_rfl) started (by kernel_rfl) Try.func6
    (ChangeSpec.witness6 (enc := enc) (C := Try.checked) false ⟨#[], #[.agg #[.int .i64 0, .int .i64 0, .string ⟨#[]⟩, .int .i64 0, .string ⟨#[]⟩, .string ⟨#[]⟩, .string ⟨#[]⟩, .string ⟨#[]⟩, .int .i64 0, .int .i64 0, .string ⟨#[]⟩, .string ⟨#[]⟩, .bool false, .bool false, .int .i64 0, .slice none 0 0, .slice none 0 0, .slice none 0 0]], []⟩ 8 (by kernel_rfl) (by kernel_rfl) (by kernel_rfl) (by kernel_rfl)) ?_
  intro W base args ds gs before hval0 hW hcnd hsz0 _
  have hval : ∀ (j : Nat) t v, Try.f6.params[j]? = some t → args[j]? = some v → Value.okWide Try.prog W .any base t v := hval0
  have hsz : (DataW.weightsEach Try.prog (Try.f6.params.toList ++ Rows.reqFlatsSpec.plain.varTypes Try.prog) (ds ++ gs)).all (· ≤ reachBytes) = true := hsz0
  have hW' := hW
  obtain ⟨p, q, hA0, hV, rfl, hfz, hnd⟩ := hW
  have hA : DataW.TrodAll enc Try.prog W 0 (fun _ => true) true Try.f6.params.toList args.toList ds p := hA0
  rw [Try.params6] at hA hval hsz
  obtain ⟨v0, vs0, d0, ds0, p0, q0, hargs, rfl, rfl, h0, r0⟩ := trodAll_cons hA
  obtain ⟨rfl, rfl, rfl⟩ := trodAll_nil r0
  obtain rfl : args = #[v0] := by cases args; simp_all
  obtain ⟨rfl, rfl⟩ := trodVars_none hV
  have lt0 : ∀ x ∈ p0, x.block < W.heap.size := by obtain ⟨m, hm⟩ := h0; exact DataW.trod_lt m _ _ _ hm
  have o0 := op_of hsz (j := 0) rfl rfl h0
  refine (ReqFlats_walk v0 W (hval 0 _ v0 rfl rfl) o0).mono fun e W' ⟨he, bel⟩ => ?_
  subst he
  exact ⟨_, rfl, _, _, _, [], _, [], hW', trodAll_mk1 (shut_bool Try.underlying4 _), (trodAll_cons_mk (Below.trod (by kernel_rfl) (by kernel_rfl) (of_decide_eq_true (by kernel_rfl)) h0 bel lt0) trodAll_mk0), rfl, bel.frame _, fun h => by cases h⟩

/-- The statement. -/
theorem ReqFlats_holds : Rows.ReqFlatsSaid :=
  OpenClaim.holds_of_wide 6 Try.f6 rfl rfl rfl rfl rfl rfl rfl ⟨rfl, rfl, rfl, rfl, rfl⟩ rfl rfl rfl rfl rfl (by kernel_rfl) Try.func6 (by kernel_rfl)
    (of_decide_eq_true (by kernel_rfl)) (by unfold Func.isWrapper; rw [if_neg (of_decide_eq_false (by kernel_rfl))]; exact ⟨rfl, rfl⟩)
    (fun os started H enc _ => ReqFlats_lifted os started H enc)
#print axioms ReqFlats_holds
end Go.Proofs.Ytifjnpdnnfdcoaa
