/-
  ReqCuts: a request's bytes without their end, or with more behind them, are no request's. No condition beyond the row's.
-/
import Derived.Test.YtifjnpdnnfdcoaaReqS
import Derived.Test.YtifjnpdnnfdcoaaReqQ
import Derived.Test.YtifjnpdnnfdcoaaReqX
import Derived.Test.YtifjnpdnnfdcoaaReqW
import Derived.Test.YtifjnpdnnfdcoaaReqOpen
import Derived.Test.YtifjnpdnnfdcoaaReqPlain6
import Derived.Test.YtifjnpdnnfdcoaaRows
namespace Go.Proofs.Ytifjnpdnnfdcoaa
open Go.RowKit Go.Lib Go.ChangeShapes Go.WideShapes Go.ChangeAt
set_option linter.unusedSimpArgs false
set_option linter.unusedVariables false
set_option maxRecDepth 100000

theorem LenC.of_smallC {x : Cm} (h : Small x) : LenC x := ⟨by have := h.li; omega, by have := h.lt; omega, by have := h.le; omega⟩
theorem LenS.of_small {x : Cm} (h : Small x) : LenS x := ⟨by have := h.li; omega, by have := h.lt; omega, by have := h.le; omega⟩
theorem reqB_pos (x : Cm) : 0 < (reqB x).length := by
  rw [reqB, reqIts, itsB_cons, List.length_append, nI_B]
  have : 0 < (numB x.kind.toNat).length := by simp [numB]
  omega
set_option maxHeartbeats 8000000 in
theorem cuts20_any (x : Cm) (a1 a2 a3 : Option Addr) (c1 c2 c3 : Nat) (n : Nat) (more : List UInt8) (w : World) (hr : RdC w x a1 a2 a3) (hB : CmB x) (hn : n < 65536) (hm : more.length ≤ 140737488351232) :
    Calls Try.prog 5 #[cmV x (.slice a1 x.ifs.length c1) (.slice a2 x.thens.length c2) (.slice a3 x.elses.length c3), .int .u16 n, Str more] w fun e w' => e = .returned (.bool true) ∧ Step [] [] w w' := by
  have H00 : Hid (Blk (w.alloc (.cells (cmc x (.slice a1 x.ifs.length c1) (.slice a2 x.thens.length c2) (.slice a3 x.elses.length c3)).toArray 29)) w.heap.size 29 (cmc x (.slice a1 x.ifs.length c1) (.slice a2 x.thens.length c2) (.slice a3 x.elses.length c3)).toArray ∧ RdC (w.alloc (.cells (cmc x (.slice a1 x.ifs.length c1) (.slice a2 x.thens.length c2) (.slice a3 x.elses.length c3)).toArray 29)) x a1 a2 a3 ∧ Step [] [] w (w.alloc (.cells (cmc x (.slice a1 x.ifs.length c1) (.slice a2 x.thens.length c2) (.slice a3 x.elses.length c3)).toArray 29))) := Lib.hid ⟨Blk.new w _ _, hr.step ((Step.refl [] w).alloc _), (Step.refl [] w).alloc _⟩
  have HCB := Lib.hid hB
  clear hr hB
  go_enter Try.func5, Try.ntmps5
  go_upto_region 1 with fail
  change Code.wp _ _ _ _ (w.alloc (.cells (cmc x (.slice a1 x.ifs.length c1) (.slice a2 x.thens.length c2) (.slice a3 x.elses.length c3)).toArray 29))
  obtain ⟨b, hb⟩ : ∃ b, b = w.heap.size := ⟨_, rfl⟩
  obtain ⟨V, hV⟩ : ∃ V, V = (w.alloc (.cells (cmc x (.slice a1 x.ifs.length c1) (.slice a2 x.thens.length c2) (.slice a3 x.elses.length c3)).toArray 29)) := ⟨_, rfl⟩
  rw [← hV, ← hb] at H00
  have H0 := H00
  rw [← hV]
  try rw [← hb]
  clear hV hb H00
  go_wp2_with fail
  refine (awake20_true V).mono ?_
  rintro e w1 ⟨rfl, k1⟩
  have H1 : Hid (Blk w1 b 29 (cmc x (.slice a1 x.ifs.length c1) (.slice a2 x.thens.length c2) (.slice a3 x.elses.length c3)).toArray ∧ RdC w1 x a1 a2 a3 ∧ Step [] [] w w1) := Lib.hid ⟨H0.out.1.step k1 (by simp), H0.out.2.1.step k1, H0.out.2.2.trans k1⟩
  clear k1 H0
  go_wp2_with (refine wpList_loadRow (T := 29) (b := b) (T' := 29) (cs := (cmc x (.slice a1 x.ifs.length c1) (.slice a2 x.thens.length c2) (.slice a3 x.elses.length c3)).toArray) rfl (.tmp 3) rfl rfl Try.sCmd H1.out.1 ?_)
  refine (great_any x a1 a2 a3 c1 c2 c3 w1 H1.out.2.1).mono ?_
  rintro e w2 ⟨g, rfl, hg, k2⟩
  have H2 : Hid (Blk w2 b 29 (cmc x (.slice a1 x.ifs.length c1) (.slice a2 x.thens.length c2) (.slice a3 x.elses.length c3)).toArray ∧ RdC w2 x a1 a2 a3 ∧ Step [] [] w w2) := Lib.hid ⟨H1.out.1.step k2 (by simp), H1.out.2.1.step k2, H1.out.2.2.trans k2⟩
  clear k2 H1
  cases g with
  | true =>
    clear hg
    go_wp2_with fail
    exact bodyPost_ret (results_tmp rfl _ _ _) rfl ⟨rfl, H2.out.2.2⟩
  | false =>
    have HS := Lib.hid (hg rfl)
    clear hg
    by_cases h1000 : (1000 : Int) < more.length
    · have hd1 : decide ((1000 : Int) < more.length) = true := decide_eq_true h1000
      clear h1000
      go_wp2_with fail
      exact bodyPost_ret (results_tmp rfl _ _ _) rfl ⟨rfl, H2.out.2.2⟩
    · have hd1 : decide ((1000 : Int) < more.length) = false := decide_eq_false h1000
      have HM1 : Hid (more.length ≤ 1000) := Lib.hid (by omega)
      clear h1000
      cases hik : isK x.kind with
      | false =>
        have HK := Lib.hid hik
        clear hik
        go_wp2_with (refine wpList_loadRow (T := 29) (b := b) (T' := 29) (cs := (cmc x (.slice a1 x.ifs.length c1) (.slice a2 x.thens.length c2) (.slice a3 x.elses.length c3)).toArray) rfl (.tmp 3) rfl rfl Try.sCmd H2.out.1 ?_)
        refine (of_none x a1 a2 a3 c1 c2 c3 w2 HK.out).mono ?_
        rintro e w3 ⟨rfl, k3⟩
        go_upto_region 6 with fail
        have k4 := k3.alloc (.cells #[.int .i64 0, .int .i64 0, .string ⟨#[]⟩, .nilIface] 35)
        have b4 := Blk.new w3 35 #[.int .i64 0, .int .i64 0, .string ⟨#[]⟩, .nilIface]
        obtain ⟨b3, hb3⟩ : ∃ b3, b3 = w3.heap.size := ⟨_, rfl⟩
        obtain ⟨V3, hV3⟩ : ∃ V3, V3 = w3.alloc (.cells #[.int .i64 0, .int .i64 0, .string ⟨#[]⟩, .nilIface] 35) := ⟨_, rfl⟩
        rw [← hV3] at k4 b4 ⊢
        rw [← hb3] at b4 ⊢
        clear hb3 hV3 k3
        have H3 : Hid (Blk V3 b 29 (cmc x (.slice a1 x.ifs.length c1) (.slice a2 x.thens.length c2) (.slice a3 x.elses.length c3)).toArray ∧ RdC V3 x a1 a2 a3 ∧ Step [] [] w V3 ∧ Blk V3 b3 35 #[.int .i64 0, .int .i64 0, .string ⟨#[]⟩, .nilIface]) := Lib.hid ⟨H2.out.1.step k4 (by simp), H2.out.2.1.step k4, H2.out.2.2.trans k4, b4⟩
        clear k4 b4 H2
        have rc := H3.out.2.2.2.cell
        have rc0 := rc 0
        have rc1 := rc 1
        have rc2 := rc 2
        have rc3 := rc 3
        clear rc
        have rl := H3.out.2.2.2.lt
        simp only [List.getElem?_toArray, List.getElem?_cons_zero, List.getElem?_cons_succ] at rc0 rc1 rc2 rc3
        go_wp2_with fail
        refine (encodeNil_any V3).mono ?_
        rintro e w4 ⟨rfl, k4⟩
        have H4 := Lib.hid (H3.out.2.2.1.trans k4)
        clear k4 hd1 rc0 rc1 rc2 rc3 rl
        go_wp2_with fail
        exact bodyPost_ret (results_tmp rfl _ _ _) rfl ⟨rfl, H4.out⟩
      | true =>
        have HK := Lib.hid hik
        clear hik
        go_wp2_with (refine wpList_loadRow (T := 29) (b := b) (T' := 29) (cs := (cmc x (.slice a1 x.ifs.length c1) (.slice a2 x.thens.length c2) (.slice a3 x.elses.length c3)).toArray) rfl (.tmp 3) rfl rfl Try.sCmd H2.out.1 ?_)
        refine (of_any x a1 a2 a3 c1 c2 c3 w2 HK.out H2.out.2.1 (LenC.of_smallC HS.out)).mono ?_
        rintro e w3 ⟨m, rfl, hm, k3⟩
        obtain ⟨y, hy⟩ : ∃ y, y = cleanC x := ⟨_, rfl⟩
        have HY := Lib.hid hy
        rw [← hy] at hm
        obtain ⟨T, u, hv⟩ := hm.shape
        subst hv
        have HM0 := Lib.hid hm
        clear hm hy
        go_upto_region 6 with fail
        have k4 := k3.alloc (.cells #[.int .i64 y.client, .int .i64 y.seq, .string ⟨y.token.toArray⟩, .iface T u] 35)
        have b4 := Blk.new w3 35 #[.int .i64 y.client, .int .i64 y.seq, .string ⟨y.token.toArray⟩, .iface T u]
        obtain ⟨b3, hb3⟩ : ∃ b3, b3 = w3.heap.size := ⟨_, rfl⟩
        obtain ⟨V3, hV3⟩ : ∃ V3, V3 = w3.alloc (.cells #[.int .i64 y.client, .int .i64 y.seq, .string ⟨y.token.toArray⟩, .iface T u] 35) := ⟨_, rfl⟩
        have HM := Lib.hid (HM0.out.step ((Step.refl [] w3).alloc (.cells #[.int .i64 y.client, .int .i64 y.seq, .string ⟨y.token.toArray⟩, .iface T u] 35)))
        rw [← hV3] at HM
        clear HM0
        rw [← hV3] at k4 b4 ⊢
        rw [← hb3] at b4 ⊢
        clear hb3 hV3 k3
        have H3 : Hid (Blk V3 b 29 (cmc x (.slice a1 x.ifs.length c1) (.slice a2 x.thens.length c2) (.slice a3 x.elses.length c3)).toArray ∧ RdC V3 x a1 a2 a3 ∧ Step [] [] w V3 ∧ Blk V3 b3 35 #[.int .i64 y.client, .int .i64 y.seq, .string ⟨y.token.toArray⟩, .iface T u]) := Lib.hid ⟨H2.out.1.step k4 (by simp), H2.out.2.1.step k4, H2.out.2.2.trans k4, b4⟩
        clear k4 b4 H2
        have HYK : Hid (isK y.kind = true ∧ cleanC y = y ∧ y.kind = x.kind) := Lib.hid ⟨by rw [HY.out, clean_kind HK.out]; exact HK.out, by rw [HY.out]; exact clean_twice HK.out, by rw [HY.out]; exact clean_kind HK.out⟩
        have HYB : Hid (CmB y ∧ LenS y) := Lib.hid ⟨by rw [HY.out]; exact HCB.out.clean, by rw [HY.out]; exact (LenS.of_small HS.out).clean⟩
        have rc := H3.out.2.2.2.cell
        have rc0 := rc 0
        have rc1 := rc 1
        have rc2 := rc 2
        have rc3 := rc 3
        clear rc
        have rl := H3.out.2.2.2.lt
        simp only [List.getElem?_toArray, List.getElem?_cons_zero, List.getElem?_cons_succ] at rc0 rc1 rc2 rc3
        go_wp2_with fail
        refine (encode_any HM.out HYB.out.1 HYB.out.2).mono ?_
        rintro e w4 ⟨rfl, k4⟩
        have H4 := Lib.hid (H3.out.2.2.1.trans k4)
        clear k4 hd1 HM rc0 rc1 rc2 rc3 rl
        obtain ⟨⟨s, ee⟩, hse⟩ : ∃ p, p = encC y := ⟨_, rfl⟩
        rw [← hse]
        by_cases h0 : ee = 0
        · subst h0
          obtain ⟨hrt, hbs⟩ := encC_some y s hse.symm
          have HR := Lib.hid hrt
          have hpos : 0 < s.length := by rw [hbs]; exact reqB_pos y
          have hsl : s.length ≤ 8192 := by rw [hbs]; exact (right_of hrt).2.2.2
          have HSB := Lib.hid hbs
          clear hrt hbs hse
          have q1 : IntKind.i64.wrap (n : Int) = n := IntWalk.i64_in _ (by omega)
          have q2 : (n : Int).tmod (s.length : Int) = ((n % s.length : Nat) : Int) := rfl
          have q3 : n % s.length < s.length := Nat.mod_lt _ hpos
          have q4 : ((s.length : Int) == 0) = false := by rw [beq_eq_false_iff_ne]; omega
          obtain ⟨k, hk⟩ : ∃ k, k = n % s.length := ⟨_, rfl⟩
          rw [← hk] at q2 q3
          clear hk
          have q5 : IntKind.i64.wrap (k : Int) = k := IntWalk.i64_in _ (by omega)
          go_wp2_with fail
          refine (decodeQ_any (s.take k) w4 (by rw [List.length_take]; omega)).mono ?_
          rintro e w5 ⟨h5, k5⟩
          rw [show decC (s.take k) = none by rw [HSB.out]; exact decC_cut HYK.out.1 HYK.out.2.1 HR.out (by rw [← HSB.out]; exact q3)] at h5
          rcases h5 with ⟨r, m5, h5, _⟩ | ⟨_, rfl⟩
          · cases h5
          have H5 := Lib.hid (H4.out.trans k5)
          clear k5 H4 q1 q2 q3 q4 q5
          have hml := HM1.out
          have q6 : s.length + more.length ≤ 9223372036854775807 := by omega
          go_upto_region 10 with fail
          have HQ : Hid (Step [] [] w (w5.alloc (.cells rqZ 35))) := Lib.hid (H5.out.alloc _)
          go_wp2_with fail
          refine (decodeQ_any (s ++ more) _ (by rw [List.length_append]; omega)).mono ?_
          rintro e w6 ⟨h6, k6⟩
          have H6 := Lib.hid (HQ.out.trans k6)
          clear k6 H5 HQ q6
          by_cases hmn : more = []
          · rw [hmn, List.append_nil, HSB.out, decC_right HYK.out.1 HYK.out.2.1 HR.out] at h6
            rcases h6 with ⟨r, m6, h6, rfl, hm6⟩ | ⟨h6, _⟩
            · have hmb : (more == []) = true := by simp [hmn]
              obtain ⟨T6, u6, hv6⟩ := hm6.shape
              subst hv6
              clear h6 hmn hm6
              go_wp2_with fail
              exact bodyPost_ret (results_tmp rfl _ _ _) rfl ⟨rfl, (H6.out.alloc _)⟩
            · cases h6
          · have hmb : (more == []) = false := by simpa using hmn
            rw [HSB.out, decC_more HYK.out.1 HYK.out.2.1 HR.out hmn] at h6
            rcases h6 with ⟨r, m6, h6, _⟩ | ⟨_, rfl⟩
            · cases h6
            · clear hmn
              go_wp2_with fail
              exact bodyPost_ret (results_tmp rfl _ _ _) rfl ⟨rfl, (H6.out.alloc _)⟩
        · have hs0 : s = [] := by have := encC_err y (by rw [← hse]; exact h0); rw [← hse] at this; exact this
          subst hs0
          have h0d : (ee == 0) = false := by simp [h0]
          clear hse
          go_wp2_with fail
          exact bodyPost_ret (results_tmp rfl _ _ _) rfl ⟨rfl, H4.out⟩

theorem ReqCuts_walk (v0 v1 v2 : Value) (w : World) {b0 b1 b2 : Nat} (h0 : Value.okWide Try.prog w .any b0 29 v0) (o0 : Op Try.prog w 29 v0.cells.toList) (h1 : Value.okWide Try.prog w .any b1 51 v1) (o1 : Op Try.prog w 51 v1.cells.toList) (h2 : Value.okWide Try.prog w .any b2 9 v2) (o2 : Op Try.prog w 9 v2.cells.toList) :
    Calls Try.prog 5 #[v0, v1, v2] w fun e w' => e = .returned (.bool true) ∧ Below w.heap.size w w' := by
  obtain ⟨x, a1, c1, a2, c2, a3, c3, rfl, hr, hb⟩ := cmd_in h0 o0
  obtain ⟨n, rfl⟩ := okWide_int Try.underlying51 h1
  obtain ⟨n', e1, w1⟩ := o1.int Try.underlying51
  obtain ⟨s, rfl, hs⟩ := strq_in h2 o2
  have e2 : n = n' := by
    have := congrArg List.head? e1
    simpa [Value.cells] using this
  subst e2
  have hnb : 0 ≤ n ∧ n < 65536 := by
    simp [Lit.wf, IntKind.min, IntKind.max, IntKind.signed, IntKind.bits] at w1
    omega
  obtain ⟨k, rfl⟩ : ∃ k : Nat, n = k := ⟨n.toNat, by omega⟩
  exact (cuts20_any x a1 a2 a3 c1 c2 c3 k s w hr hb (by omega) hs).mono fun e w' ⟨h1, h2⟩ => ⟨h1, h2.below0⟩
set_option maxRecDepth 100000 in
theorem ReqCuts_lifted (os : Os) (started : os.Started) (H : Type) (enc : TypeId × Value → H) :
    ReturnsInHanded {} Try.checked os 5 .any (Rows.reqCutsSpec.pre6 enc Try.prog Try.f5 Rows.reqCutsRow.domain false) (Rows.reqCutsSpec.post enc Try.prog Try.f5 false true false false) := by
  refine returnsInHanded_of_change_sized (C := Try.checked) (by kernel_rfl) started (by kernel_rfl) Try.func5
    (ChangeSpec.witness6 (enc := enc) (C := Try.checked) false ⟨#[], #[.agg #[.int .i64 0, .int .i64 0, .string ⟨#[]⟩, .int .i64 0, .string ⟨#[]⟩, .string ⟨#[]⟩, .string ⟨#[]⟩, .string ⟨#[]⟩, .int .i64 0, .int .i64 0, .string ⟨#[]⟩, .string ⟨#[]⟩, .bool false, .bool false, .int .i64 0, .slice none 0 0, .slice none 0 0, .slice none 0 0], .int .u16 0, .string ⟨#[]⟩], []⟩ 8 (by kernel_rfl) (by kernel_rfl) (by kernel_rfl) (by kernel_rfl)) ?_
  intro W base args ds gs before hval0 hW hcnd hsz0 _
  have hval : ∀ (j : Nat) t v, Try.f5.params[j]? = some t → args[j]? = some v → Value.okWide Try.prog W .any base t v := hval0
  have hsz : (DataW.weightsEach Try.prog (Try.f5.params.toList ++ Rows.reqCutsSpec.plain.varTypes Try.prog) (ds ++ gs)).all (· ≤ reachBytes) = true := hsz0
  have hW' := hW
  obtain ⟨p, q, hA0, hV, rfl, hfz, hnd⟩ := hW
  have hA : DataW.TrodAll enc Try.prog W 0 (fun _ => true) true Try.f5.params.toList args.toList ds p := hA0
  rw [Try.params5] at hA hval hsz
  obtain ⟨v0, vs0, d0, ds0, p0, q0, hargs, rfl, rfl, h0, r0⟩ := trodAll_cons hA
  obtain ⟨v1, vs1, d1, ds1, p1, q1, rfl, rfl, rfl, h1, r1⟩ := trodAll_cons r0
  obtain ⟨v2, vs2, d2, ds2, p2, q2, rfl, rfl, rfl, h2, r2⟩ := trodAll_cons r1
  obtain ⟨rfl, rfl, rfl⟩ := trodAll_nil r2
  obtain rfl : args = #[v0, v1, v2] := by cases args; simp_all
  obtain ⟨rfl, rfl⟩ := trodVars_none hV
  have lt0 : ∀ x ∈ p0, x.block < W.heap.size := by obtain ⟨m, hm⟩ := h0; exact DataW.trod_lt m _ _ _ hm
  have o0 := op_of hsz (j := 0) rfl rfl h0
  have lt1 : ∀ x ∈ p1, x.block < W.heap.size := by obtain ⟨m, hm⟩ := h1; exact DataW.trod_lt m _ _ _ hm
  have o1 := op_of hsz (j := 1) rfl rfl h1
  have lt2 : ∀ x ∈ p2, x.block < W.heap.size := by obtain ⟨m, hm⟩ := h2; exact DataW.trod_lt m _ _ _ hm
  have o2 := op_of hsz (j := 2) rfl rfl h2
  refine (ReqCuts_walk v0 v1 v2 W (hval 0 _ v0 rfl rfl) o0 (hval 1 _ v1 rfl rfl) o1 (hval 2 _ v2 rfl rfl) o2).mono fun e W' ⟨he, bel⟩ => ?_
  subst he
  exact ⟨_, rfl, _, _, _, [], _, [], hW', trodAll_mk1 (shut_bool Try.underlying4 _), (trodAll_cons_mk (Below.trod (by kernel_rfl) (by kernel_rfl) (of_decide_eq_true (by kernel_rfl)) h0 bel lt0) (trodAll_cons_mk (Below.trod (by kernel_rfl) (by kernel_rfl) (of_decide_eq_true (by kernel_rfl)) h1 bel lt1) (trodAll_cons_mk (Below.trod (by kernel_rfl) (by kernel_rfl) (of_decide_eq_true (by kernel_rfl)) h2 bel lt2) trodAll_mk0))), rfl, bel.frame _, fun h => by cases h⟩

/-- The statement. -/
theorem ReqCuts_holds : Rows.ReqCutsSaid :=
  OpenClaim.holds_of_wide 5 Try.f5 rfl rfl rfl rfl rfl rfl rfl ⟨rfl, rfl, rfl, rfl, rfl⟩ rfl rfl rfl rfl rfl (by kernel_rfl) Try.func5 (by kernel_rfl)
    (of_decide_eq_true (by kernel_rfl)) (by unfold Func.isWrapper; rw [if_neg (of_decide_eq_false (by kernel_rfl))]; exact ⟨rfl, rfl⟩)
    (fun os started H enc _ => ReqCuts_lifted os started H enc)
#print axioms ReqCuts_holds
end Go.Proofs.Ytifjnpdnnfdcoaa
