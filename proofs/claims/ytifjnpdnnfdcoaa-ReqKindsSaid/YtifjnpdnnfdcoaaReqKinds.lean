/-
  ReqKinds: a body is a Txn just if its kind says so, and asked for as a Login it panics just if it is none. No condition beyond the row's.
-/
import Derived.Test.YtifjnpdnnfdcoaaReqR
import Derived.Test.YtifjnpdnnfdcoaaReqS
import Derived.Test.YtifjnpdnnfdcoaaReqQ
import Derived.Test.YtifjnpdnnfdcoaaReqOpen
import Derived.Test.YtifjnpdnnfdcoaaRows
namespace Go.Proofs.Ytifjnpdnnfdcoaa
open Go.RowKit Go.Lib Go.ChangeShapes Go.WideShapes Go.ChangeAt
set_option linter.unusedSimpArgs false
set_option linter.unusedVariables false
set_option maxRecDepth 100000

theorem LenC.of_smallK {x : Cm} (h : Small x) : LenC x := ⟨by have := h.li; omega, by have := h.lt; omega, by have := h.le; omega⟩
structure AskT (b : Value) (is : Bool) (n : Nat) : Prop where
  run : ∀ W, Calls Try.prog 20 #[b] W fun e w' => (∃ s1 s2 s3 n1 n2 n3 k1 k2 k3, e = .returned (.tuple #[.agg #[.slice s1 n1 k1, .slice s2 n2 k2, .slice s3 n3 k3], .bool is]) ∧ (is = true → n1 = n) ∧ (is = false → n1 = 0 ∧ n2 = 0 ∧ n3 = 0)) ∧ Step [] [] W w'
structure AskL (b : Value) (fell : Bool) (s t : List UInt8) : Prop where
  run : ∀ W, Calls Try.prog 21 #[b] W fun e w' => (∃ s' t', e = .returned (.tuple #[.agg #[Str s', Str t'], .bool fell]) ∧ (fell = false → s' = s ∧ t' = t)) ∧ Step [] [] W w'
theorem askT_no {b : Value} (n : Nat) (hp : ∀ W, (Instr.typeAssert b 33 55 true).run Try.prog W = .ok (.tuple #[txnZ, .bool false]) W) : AskT b false n :=
  ⟨fun W => (isTxn_no b W hp).mono fun e w' ⟨h1, h2⟩ => ⟨⟨none, none, none, 0, 0, 0, 0, 0, 0, h1, by simp, by simp⟩, h2⟩⟩
theorem askL_no {b : Value} (s t : List UInt8) (o : World → Obj) (hp : ∀ W, (Instr.typeAssert b 33 59 false).run Try.prog W = .halt (.panic (.iface 15 (.pointer (some ⟨W.heap.size, 0, none⟩)))) (W.alloc (o W))) (ho : ∀ W W', o W = o W') : AskL b true s t :=
  ⟨fun W => (login_no b W fun W' => mustLogin_no b W' (o W) fun W'' _ => by rw [ho W W'']; exact hp W'').mono fun e w' ⟨h1, h2⟩ => ⟨⟨[], [], h1, by simp⟩, h2⟩⟩
theorem IsReq.asks {w : World} {y : Cm} {v : Value} (h : IsReq w y v) : ∃ T u, v = .agg #[.int .i64 y.client, .int .i64 y.seq, Str y.token, .iface T u] ∧ AskT (.iface T u) (y.kind == 2) y.ifs.length ∧ AskL (.iface T u) (!(y.kind == 1)) y.name y.word := by
  obtain ⟨a1, c1, a2, c2, a3, c3, h1, h2⟩ := h.at_
  rcases isK_cases h.kind with hk | hk | hk | hk
  · rw [bodyV, if_pos hk] at h1
    refine ⟨_, _, h1, ?_, ?_⟩
    · rw [hk]; exact askT_no _ fun W => rta12 _ W
    · rw [hk]; exact ⟨fun W => (login_yes _ _ W).mono fun e w' ⟨h1, h2⟩ => ⟨⟨_, _, h1, fun _ => ⟨rfl, rfl⟩⟩, h2⟩⟩
  · rw [bodyV, if_neg (by omega), if_pos hk] at h1
    refine ⟨_, _, h1, ?_, ?_⟩
    · rw [hk]; exact ⟨fun W => (isTxn_yes a1 a2 a3 _ _ _ c1 c2 c3 W).mono fun e w' ⟨h1, h2⟩ => ⟨⟨_, _, _, _, _, _, _, _, _, h1, fun _ => rfl, by simp⟩, h2⟩⟩
    · rw [hk]; exact askL_no _ _ _ (fun W => rtp2 _ W) (fun _ _ => rfl)
  · rw [bodyV, if_neg (by omega), if_neg (by omega), if_pos hk] at h1
    refine ⟨_, _, h1, ?_, ?_⟩
    · rw [hk]; exact askT_no _ fun W => rta32 _ W
    · rw [hk]; exact askL_no _ _ _ (fun W => rtp3 _ W) (fun _ _ => rfl)
  · rw [bodyV, if_neg (by omega), if_neg (by omega), if_neg (by omega)] at h1
    refine ⟨_, _, h1, ?_, ?_⟩
    · rw [show (y.kind == 2) = false by simp; omega]; exact askT_no _ fun W => rta42 _ W
    · rw [show (!(y.kind == 1)) = true by simp; omega]; exact askL_no _ _ _ (fun W => rtp4 _ W) (fun _ _ => rfl)
theorem asks_nil (s t : List UInt8) : AskT .nilIface false 0 ∧ AskL .nilIface true s t := ⟨askT_no _ fun W => rta02 W, askL_no _ _ _ (fun W => rtp0 W) (fun _ _ => rfl)⟩
set_option maxHeartbeats 8000000 in
theorem kinds20_any (x : Cm) (a1 a2 a3 : Option Addr) (c1 c2 c3 : Nat) (w : World) (hr : RdC w x a1 a2 a3) :
    Calls Try.prog 7 #[cmV x (.slice a1 x.ifs.length c1) (.slice a2 x.thens.length c2) (.slice a3 x.elses.length c3)] w fun e w' => e = .returned (.bool true) ∧ Step [] [] w w' := by
  have H00 : Hid (Blk (w.alloc (.cells (cmc x (.slice a1 x.ifs.length c1) (.slice a2 x.thens.length c2) (.slice a3 x.elses.length c3)).toArray 29)) w.heap.size 29 (cmc x (.slice a1 x.ifs.length c1) (.slice a2 x.thens.length c2) (.slice a3 x.elses.length c3)).toArray ∧ RdC (w.alloc (.cells (cmc x (.slice a1 x.ifs.length c1) (.slice a2 x.thens.length c2) (.slice a3 x.elses.length c3)).toArray 29)) x a1 a2 a3 ∧ Step [] [] w (w.alloc (.cells (cmc x (.slice a1 x.ifs.length c1) (.slice a2 x.thens.length c2) (.slice a3 x.elses.length c3)).toArray 29))) := Lib.hid ⟨Blk.new w _ _, hr.step ((Step.refl [] w).alloc _), (Step.refl [] w).alloc _⟩
  clear hr
  go_enter Try.func7, Try.ntmps7
  go_upto_region 1 with fail
  change Code.wp _ _ _ _ (w.alloc (.cells (cmc x (.slice a1 x.ifs.length c1) (.slice a2 x.thens.length c2) (.slice a3 x.elses.length c3)).toArray 29))
  obtain ⟨b, hb⟩ : ∃ b, b = w.heap.size := ⟨_, rfl⟩
  obtain ⟨V, hV⟩ : ∃ V, V = (w.alloc (.cells (cmc x (.slice a1 x.ifs.length c1) (.slice a2 x.thens.length c2) (.slice a3 x.elses.length c3)).toArray 29)) := ⟨_, rfl⟩
  rw [← hV, ← hb] at H00
  have H0 := H00
  rw [← hV]
  try rw [← hb]
  clear hV hb H00
  go_wp2_with fail
  refine (awake20_true V).mono ?_
  rintro e w1 ⟨rfl, k1⟩
  have H1 : Hid (Blk w1 b 29 (cmc x (.slice a1 x.ifs.length c1) (.slice a2 x.thens.length c2) (.slice a3 x.elses.length c3)).toArray ∧ RdC w1 x a1 a2 a3 ∧ Step [] [] w w1) := Lib.hid ⟨H0.out.1.step k1 (by simp), H0.out.2.1.step k1, H0.out.2.2.trans k1⟩
  clear k1 H0
  go_wp2_with (refine wpList_loadRow (T := 29) (b := b) (T' := 29) (cs := (cmc x (.slice a1 x.ifs.length c1) (.slice a2 x.thens.length c2) (.slice a3 x.elses.length c3)).toArray) rfl (.tmp 1) rfl rfl Try.sCmd H1.out.1 ?_)
  refine (great_any x a1 a2 a3 c1 c2 c3 w1 H1.out.2.1).mono ?_
  rintro e w2 ⟨g, rfl, hg, k2⟩
  have H2 : Hid (Blk w2 b 29 (cmc x (.slice a1 x.ifs.length c1) (.slice a2 x.thens.length c2) (.slice a3 x.elses.length c3)).toArray ∧ RdC w2 x a1 a2 a3 ∧ Step [] [] w w2) := Lib.hid ⟨H1.out.1.step k2 (by simp), H1.out.2.1.step k2, H1.out.2.2.trans k2⟩
  clear k2 H1
  cases g with
  | true =>
    go_wp2_with fail
    exact bodyPost_ret (results_tmp rfl _ _ _) rfl ⟨rfl, H2.out.2.2⟩
  | false =>
    have HS := Lib.hid (hg rfl)
    clear hg
    cases hik : isK x.kind with
    | false =>
      have HK := Lib.hid hik
      clear hik
      have HT := Lib.hid (asks_nil [] []).1
      have HLL := Lib.hid (asks_nil [] []).2
      go_wp2_with (refine wpList_loadRow (T := 29) (b := b) (T' := 29) (cs := (cmc x (.slice a1 x.ifs.length c1) (.slice a2 x.thens.length c2) (.slice a3 x.elses.length c3)).toArray) rfl (.tmp 1) rfl rfl Try.sCmd H2.out.1 ?_)
      refine (of_none x a1 a2 a3 c1 c2 c3 w2 HK.out).mono ?_
      rintro e w3 ⟨rfl, k3⟩
      go_upto_region 6 with fail
      have k4 := k3.alloc (.cells #[.int .i64 0, .int .i64 0, .string ⟨#[]⟩, .nilIface] 35)
      have b4 := Blk.new w3 35 #[.int .i64 0, .int .i64 0, .string ⟨#[]⟩, .nilIface]
      obtain ⟨b3, hb3⟩ : ∃ b3, b3 = w3.heap.size := ⟨_, rfl⟩
      obtain ⟨V3, hV3⟩ : ∃ V3, V3 = w3.alloc (.cells #[.int .i64 0, .int .i64 0, .string ⟨#[]⟩, .nilIface] 35) := ⟨_, rfl⟩
      rw [← hV3] at k4 b4 ⊢
      rw [← hb3] at b4 ⊢
      clear hb3 hV3 k3
      have H3 : Hid (Blk V3 b 29 (cmc x (.slice a1 x.ifs.length c1) (.slice a2 x.thens.length c2) (.slice a3 x.elses.length c3)).toArray ∧ Step [] [] w V3 ∧ Blk V3 b3 35 #[.int .i64 0, .int .i64 0, .string ⟨#[]⟩, .nilIface]) := Lib.hid ⟨H2.out.1.step k4 (by simp), H2.out.2.2.trans k4, b4⟩
      clear k4 b4 H2
      have z3 := H3.out.2.2.cell 3
      have zl := H3.out.2.2.lt
      simp only [List.getElem?_toArray, List.getElem?_cons_zero, List.getElem?_cons_succ] at z3
      go_wp2_with fail
      refine (HT.out.run _).mono ?_
      rintro e w4 ⟨⟨s1, s2, s3, n1, n2, n3, q1, q2, q3, rfl, hn1, hn0⟩, k4⟩
      clear z3 zl
      obtain ⟨rfl, rfl, rfl⟩ := hn0 rfl
      skip
      clear hn1 hn0
      have k5 := k4.alloc (.cells #[.slice s1 0 q1, .slice s2 0 q2, .slice s3 0 q3] 55)
      have b5 := Blk.new w4 55 #[.slice s1 0 q1, .slice s2 0 q2, .slice s3 0 q3]
      go_upto_region 7 with fail
      obtain ⟨bt, hbt⟩ : ∃ bt, bt = w4.heap.size := ⟨_, rfl⟩
      obtain ⟨V5, hV5⟩ : ∃ V5, V5 = w4.alloc (.cells #[.slice s1 0 q1, .slice s2 0 q2, .slice s3 0 q3] 55) := ⟨_, rfl⟩
      rw [← hV5] at k5 b5 ⊢
      rw [← hbt] at b5 ⊢
      clear hbt hV5 k4
      have H5 : Hid (Blk V5 b 29 (cmc x (.slice a1 x.ifs.length c1) (.slice a2 x.thens.length c2) (.slice a3 x.elses.length c3)).toArray ∧ Step [] [] w V5 ∧ Blk V5 b3 35 #[.int .i64 0, .int .i64 0, .string ⟨#[]⟩, .nilIface] ∧ Blk V5 bt 55 #[.slice s1 0 q1, .slice s2 0 q2, .slice s3 0 q3]) := Lib.hid ⟨H3.out.1.step k5 (by simp), H3.out.2.1.trans k5, H3.out.2.2.step k5 (by simp), b5⟩
      clear k5 b5 H3
      have z3 := H5.out.2.2.1.cell 3
      have zl := H5.out.2.2.1.lt
      simp only [List.getElem?_toArray, List.getElem?_cons_zero, List.getElem?_cons_succ] at z3
      go_wp2_with fail
      refine (HLL.out.run _).mono ?_
      rintro e w6 ⟨⟨s', t', rfl, hst⟩, k6⟩
      clear z3 zl
      clear hst
      have k7 := k6.alloc (.cells #[.string ⟨s'.toArray⟩, .string ⟨t'.toArray⟩] 59)
      have b7 := Blk.new w6 59 #[.string ⟨s'.toArray⟩, .string ⟨t'.toArray⟩]
      go_upto_region 8 with fail
      obtain ⟨bl, hbl⟩ : ∃ bl, bl = w6.heap.size := ⟨_, rfl⟩
      obtain ⟨V7, hV7⟩ : ∃ V7, V7 = w6.alloc (.cells #[.string ⟨s'.toArray⟩, .string ⟨t'.toArray⟩] 59) := ⟨_, rfl⟩
      rw [← hV7] at k7 b7 ⊢
      rw [← hbl] at b7 ⊢
      clear hbl hV7 k6
      have H7 : Hid (Blk V7 b 29 (cmc x (.slice a1 x.ifs.length c1) (.slice a2 x.thens.length c2) (.slice a3 x.elses.length c3)).toArray ∧ Step [] [] w V7 ∧ Blk V7 bl 59 #[.string ⟨s'.toArray⟩, .string ⟨t'.toArray⟩] ∧ Blk V7 bt 55 #[.slice s1 0 q1, .slice s2 0 q2, .slice s3 0 q3]) := Lib.hid ⟨H5.out.1.step k7 (by simp), H5.out.2.1.trans k7, b7, H5.out.2.2.2.step k7 (by simp)⟩
      clear k7 b7 H5
      have xc := H7.out.1.cell
      have x3 := xc 3
      have x4 := xc 4
      have x6 := xc 6
      have x15 := xc 15
      clear xc
      simp only [cmc, List.getElem?_toArray, List.getElem?_cons_zero, List.getElem?_cons_succ] at x3 x4 x6 x15
      have xl := H7.out.1.lt
      have tc := H7.out.2.2.2.cell
      have t0 := tc 0
      have t1 := tc 1
      have t2 := tc 2
      clear tc
      have tl := H7.out.2.2.2.lt
      have lc := H7.out.2.2.1.cell
      have l0 := lc 0
      have l1 := lc 1
      clear lc
      have ll := H7.out.2.2.1.lt
      simp only [List.getElem?_toArray, List.getElem?_cons_zero, List.getElem?_cons_succ] at t0 t1 t2 l0 l1
      go_wp2_with fail
      exact bodyPost_ret (results_tmp rfl _ _ _) rfl ⟨rfl, H7.out.2.1⟩
    | true =>
      have HK := Lib.hid hik
      clear hik
      go_wp2_with (refine wpList_loadRow (T := 29) (b := b) (T' := 29) (cs := (cmc x (.slice a1 x.ifs.length c1) (.slice a2 x.thens.length c2) (.slice a3 x.elses.length c3)).toArray) rfl (.tmp 1) rfl rfl Try.sCmd H2.out.1 ?_)
      refine (of_any x a1 a2 a3 c1 c2 c3 w2 HK.out H2.out.2.1 (LenC.of_smallK HS.out)).mono ?_
      rintro e w3 ⟨m, rfl, hm, k3⟩
      obtain ⟨T, u, hv, hT, hL⟩ := hm.asks
      subst hv
      rw [clean_kind HK.out] at hT hL
      obtain ⟨y, hy⟩ : ∃ y, y = cleanC x := ⟨_, rfl⟩
      have HY := Lib.hid hy
      rw [← hy] at hT hL ⊢
      have HT0 := Lib.hid hT
      have HL0 := Lib.hid hL
      clear hT hL hm hy
      go_upto_region 6 with fail
      have k4 := k3.alloc (.cells #[.int .i64 y.client, .int .i64 y.seq, .string ⟨y.token.toArray⟩, .iface T u] 35)
      have b4 := Blk.new w3 35 #[.int .i64 y.client, .int .i64 y.seq, .string ⟨y.token.toArray⟩, .iface T u]
      obtain ⟨b3, hb3⟩ : ∃ b3, b3 = w3.heap.size := ⟨_, rfl⟩
      obtain ⟨V3, hV3⟩ : ∃ V3, V3 = w3.alloc (.cells #[.int .i64 y.client, .int .i64 y.seq, .string ⟨y.token.toArray⟩, .iface T u] 35) := ⟨_, rfl⟩
      rw [← hV3] at k4 b4 ⊢
      rw [← hb3] at b4 ⊢
      clear hb3 hV3 k3
      have H3 : Hid (Blk V3 b 29 (cmc x (.slice a1 x.ifs.length c1) (.slice a2 x.thens.length c2) (.slice a3 x.elses.length c3)).toArray ∧ Step [] [] w V3 ∧ Blk V3 b3 35 #[.int .i64 y.client, .int .i64 y.seq, .string ⟨y.token.toArray⟩, .iface T u]) := Lib.hid ⟨H2.out.1.step k4 (by simp), H2.out.2.2.trans k4, b4⟩
      clear k4 b4 H2
      by_cases e1 : x.kind = 1
      · have k1 : (x.kind == 1) = true := by simp [e1]
        have k2 : (x.kind == 2) = false := by simp [e1]
        have HYN : Hid (y.name = x.name ∧ y.word = x.word) := Lib.hid (by rw [HY.out]; simp [cleanC, isK, onlyC, hasN, hasW, e1])
        have HT : Hid (AskT (.iface T u) false y.ifs.length) := Lib.hid (by have := HT0.out; rwa [k2] at this)
        have HLL : Hid (AskL (.iface T u) false x.name x.word) := Lib.hid (by have := HL0.out; rwa [k1, HYN.out.1, HYN.out.2] at this)
        clear e1 HT0 HL0
        have z3 := H3.out.2.2.cell 3
        have zl := H3.out.2.2.lt
        simp only [List.getElem?_toArray, List.getElem?_cons_zero, List.getElem?_cons_succ] at z3
        go_wp2_with fail
        refine (HT.out.run _).mono ?_
        rintro e w4 ⟨⟨s1, s2, s3, n1, n2, n3, q1, q2, q3, rfl, hn1, hn0⟩, k4⟩
        clear z3 zl
        obtain ⟨rfl, rfl, rfl⟩ := hn0 rfl
        skip
        clear hn1 hn0
        have k5 := k4.alloc (.cells #[.slice s1 0 q1, .slice s2 0 q2, .slice s3 0 q3] 55)
        have b5 := Blk.new w4 55 #[.slice s1 0 q1, .slice s2 0 q2, .slice s3 0 q3]
        go_upto_region 7 with fail
        obtain ⟨bt, hbt⟩ : ∃ bt, bt = w4.heap.size := ⟨_, rfl⟩
        obtain ⟨V5, hV5⟩ : ∃ V5, V5 = w4.alloc (.cells #[.slice s1 0 q1, .slice s2 0 q2, .slice s3 0 q3] 55) := ⟨_, rfl⟩
        rw [← hV5] at k5 b5 ⊢
        rw [← hbt] at b5 ⊢
        clear hbt hV5 k4
        have H5 : Hid (Blk V5 b 29 (cmc x (.slice a1 x.ifs.length c1) (.slice a2 x.thens.length c2) (.slice a3 x.elses.length c3)).toArray ∧ Step [] [] w V5 ∧ Blk V5 b3 35 #[.int .i64 y.client, .int .i64 y.seq, .string ⟨y.token.toArray⟩, .iface T u] ∧ Blk V5 bt 55 #[.slice s1 0 q1, .slice s2 0 q2, .slice s3 0 q3]) := Lib.hid ⟨H3.out.1.step k5 (by simp), H3.out.2.1.trans k5, H3.out.2.2.step k5 (by simp), b5⟩
        clear k5 b5 H3
        have z3 := H5.out.2.2.1.cell 3
        have zl := H5.out.2.2.1.lt
        simp only [List.getElem?_toArray, List.getElem?_cons_zero, List.getElem?_cons_succ] at z3
        go_wp2_with fail
        refine (HLL.out.run _).mono ?_
        rintro e w6 ⟨⟨s', t', rfl, hst⟩, k6⟩
        clear z3 zl
        obtain ⟨rfl, rfl⟩ := hst rfl
        have k7 := k6.alloc (.cells #[.string ⟨x.name.toArray⟩, .string ⟨x.word.toArray⟩] 59)
        have b7 := Blk.new w6 59 #[.string ⟨x.name.toArray⟩, .string ⟨x.word.toArray⟩]
        go_upto_region 8 with fail
        obtain ⟨bl, hbl⟩ : ∃ bl, bl = w6.heap.size := ⟨_, rfl⟩
        obtain ⟨V7, hV7⟩ : ∃ V7, V7 = w6.alloc (.cells #[.string ⟨x.name.toArray⟩, .string ⟨x.word.toArray⟩] 59) := ⟨_, rfl⟩
        rw [← hV7] at k7 b7 ⊢
        rw [← hbl] at b7 ⊢
        clear hbl hV7 k6
        have H7 : Hid (Blk V7 b 29 (cmc x (.slice a1 x.ifs.length c1) (.slice a2 x.thens.length c2) (.slice a3 x.elses.length c3)).toArray ∧ Step [] [] w V7 ∧ Blk V7 bl 59 #[.string ⟨x.name.toArray⟩, .string ⟨x.word.toArray⟩] ∧ Blk V7 bt 55 #[.slice s1 0 q1, .slice s2 0 q2, .slice s3 0 q3]) := Lib.hid ⟨H5.out.1.step k7 (by simp), H5.out.2.1.trans k7, b7, H5.out.2.2.2.step k7 (by simp)⟩
        clear k7 b7 H5
        have xc := H7.out.1.cell
        have x3 := xc 3
        have x4 := xc 4
        have x6 := xc 6
        have x15 := xc 15
        clear xc
        simp only [cmc, List.getElem?_toArray, List.getElem?_cons_zero, List.getElem?_cons_succ] at x3 x4 x6 x15
        have xl := H7.out.1.lt
        have tc := H7.out.2.2.2.cell
        have t0 := tc 0
        have t1 := tc 1
        have t2 := tc 2
        clear tc
        have tl := H7.out.2.2.2.lt
        have lc := H7.out.2.2.1.cell
        have l0 := lc 0
        have l1 := lc 1
        clear lc
        have ll := H7.out.2.2.1.lt
        simp only [List.getElem?_toArray, List.getElem?_cons_zero, List.getElem?_cons_succ] at t0 t1 t2 l0 l1
        go_wp2_with fail
        exact bodyPost_ret (results_tmp rfl _ _ _) rfl ⟨rfl, H7.out.2.1⟩
      · have k1 : (x.kind == 1) = false := by simp [e1]
        have HLL : Hid (AskL (.iface T u) true y.name y.word) := Lib.hid (by have := HL0.out; rwa [k1] at this)
        clear HL0
        by_cases e2 : x.kind = 2
        · have k2 : (x.kind == 2) = true := by simp [e2]
          have HYN : Hid (y.ifs = x.ifs) := Lib.hid (by rw [HY.out]; simp [cleanC, isK, onlyC, hasT, e2])
          have HT : Hid (AskT (.iface T u) true x.ifs.length) := Lib.hid (by have := HT0.out; rwa [k2, HYN.out] at this)
          clear e1 e2 HT0
          have z3 := H3.out.2.2.cell 3
          have zl := H3.out.2.2.lt
          simp only [List.getElem?_toArray, List.getElem?_cons_zero, List.getElem?_cons_succ] at z3
          go_wp2_with fail
          refine (HT.out.run _).mono ?_
          rintro e w4 ⟨⟨s1, s2, s3, n1, n2, n3, q1, q2, q3, rfl, hn1, hn0⟩, k4⟩
          clear z3 zl
          have hn := hn1 rfl
          subst hn
          clear hn1 hn0
          have k5 := k4.alloc (.cells #[.slice s1 x.ifs.length q1, .slice s2 n2 q2, .slice s3 n3 q3] 55)
          have b5 := Blk.new w4 55 #[.slice s1 x.ifs.length q1, .slice s2 n2 q2, .slice s3 n3 q3]
          go_upto_region 7 with fail
          obtain ⟨bt, hbt⟩ : ∃ bt, bt = w4.heap.size := ⟨_, rfl⟩
          obtain ⟨V5, hV5⟩ : ∃ V5, V5 = w4.alloc (.cells #[.slice s1 x.ifs.length q1, .slice s2 n2 q2, .slice s3 n3 q3] 55) := ⟨_, rfl⟩
          rw [← hV5] at k5 b5 ⊢
          rw [← hbt] at b5 ⊢
          clear hbt hV5 k4
          have H5 : Hid (Blk V5 b 29 (cmc x (.slice a1 x.ifs.length c1) (.slice a2 x.thens.length c2) (.slice a3 x.elses.length c3)).toArray ∧ Step [] [] w V5 ∧ Blk V5 b3 35 #[.int .i64 y.client, .int .i64 y.seq, .string ⟨y.token.toArray⟩, .iface T u] ∧ Blk V5 bt 55 #[.slice s1 x.ifs.length q1, .slice s2 n2 q2, .slice s3 n3 q3]) := Lib.hid ⟨H3.out.1.step k5 (by simp), H3.out.2.1.trans k5, H3.out.2.2.step k5 (by simp), b5⟩
          clear k5 b5 H3
          have z3 := H5.out.2.2.1.cell 3
          have zl := H5.out.2.2.1.lt
          simp only [List.getElem?_toArray, List.getElem?_cons_zero, List.getElem?_cons_succ] at z3
          go_wp2_with fail
          refine (HLL.out.run _).mono ?_
          rintro e w6 ⟨⟨s', t', rfl, hst⟩, k6⟩
          clear z3 zl
          clear hst
          have k7 := k6.alloc (.cells #[.string ⟨s'.toArray⟩, .string ⟨t'.toArray⟩] 59)
          have b7 := Blk.new w6 59 #[.string ⟨s'.toArray⟩, .string ⟨t'.toArray⟩]
          go_upto_region 8 with fail
          obtain ⟨bl, hbl⟩ : ∃ bl, bl = w6.heap.size := ⟨_, rfl⟩
          obtain ⟨V7, hV7⟩ : ∃ V7, V7 = w6.alloc (.cells #[.string ⟨s'.toArray⟩, .string ⟨t'.toArray⟩] 59) := ⟨_, rfl⟩
          rw [← hV7] at k7 b7 ⊢
          rw [← hbl] at b7 ⊢
          clear hbl hV7 k6
          have H7 : Hid (Blk V7 b 29 (cmc x (.slice a1 x.ifs.length c1) (.slice a2 x.thens.length c2) (.slice a3 x.elses.length c3)).toArray ∧ Step [] [] w V7 ∧ Blk V7 bl 59 #[.string ⟨s'.toArray⟩, .string ⟨t'.toArray⟩] ∧ Blk V7 bt 55 #[.slice s1 x.ifs.length q1, .slice s2 n2 q2, .slice s3 n3 q3]) := Lib.hid ⟨H5.out.1.step k7 (by simp), H5.out.2.1.trans k7, b7, H5.out.2.2.2.step k7 (by simp)⟩
          clear k7 b7 H5
          have xc := H7.out.1.cell
          have x3 := xc 3
          have x4 := xc 4
          have x6 := xc 6
          have x15 := xc 15
          clear xc
          simp only [cmc, List.getElem?_toArray, List.getElem?_cons_zero, List.getElem?_cons_succ] at x3 x4 x6 x15
          have xl := H7.out.1.lt
          have tc := H7.out.2.2.2.cell
          have t0 := tc 0
          have t1 := tc 1
          have t2 := tc 2
          clear tc
          have tl := H7.out.2.2.2.lt
          have lc := H7.out.2.2.1.cell
          have l0 := lc 0
          have l1 := lc 1
          clear lc
          have ll := H7.out.2.2.1.lt
          simp only [List.getElem?_toArray, List.getElem?_cons_zero, List.getElem?_cons_succ] at t0 t1 t2 l0 l1
          go_wp2_with fail
          exact bodyPost_ret (results_tmp rfl _ _ _) rfl ⟨rfl, H7.out.2.1⟩
        · have k2 : (x.kind == 2) = false := by simp [e2]
          have HT : Hid (AskT (.iface T u) false y.ifs.length) := Lib.hid (by have := HT0.out; rwa [k2] at this)
          clear e1 e2 HT0
          have z3 := H3.out.2.2.cell 3
          have zl := H3.out.2.2.lt
          simp only [List.getElem?_toArray, List.getElem?_cons_zero, List.getElem?_cons_succ] at z3
          go_wp2_with fail
          refine (HT.out.run _).mono ?_
          rintro e w4 ⟨⟨s1, s2, s3, n1, n2, n3, q1, q2, q3, rfl, hn1, hn0⟩, k4⟩
          clear z3 zl
          obtain ⟨rfl, rfl, rfl⟩ := hn0 rfl
          skip
          clear hn1 hn0
          have k5 := k4.alloc (.cells #[.slice s1 0 q1, .slice s2 0 q2, .slice s3 0 q3] 55)
          have b5 := Blk.new w4 55 #[.slice s1 0 q1, .slice s2 0 q2, .slice s3 0 q3]
          go_upto_region 7 with fail
          obtain ⟨bt, hbt⟩ : ∃ bt, bt = w4.heap.size := ⟨_, rfl⟩
          obtain ⟨V5, hV5⟩ : ∃ V5, V5 = w4.alloc (.cells #[.slice s1 0 q1, .slice s2 0 q2, .slice s3 0 q3] 55) := ⟨_, rfl⟩
          rw [← hV5] at k5 b5 ⊢
          rw [← hbt] at b5 ⊢
          clear hbt hV5 k4
          have H5 : Hid (Blk V5 b 29 (cmc x (.slice a1 x.ifs.length c1) (.slice a2 x.thens.length c2) (.slice a3 x.elses.length c3)).toArray ∧ Step [] [] w V5 ∧ Blk V5 b3 35 #[.int .i64 y.client, .int .i64 y.seq, .string ⟨y.token.toArray⟩, .iface T u] ∧ Blk V5 bt 55 #[.slice s1 0 q1, .slice s2 0 q2, .slice s3 0 q3]) := Lib.hid ⟨H3.out.1.step k5 (by simp), H3.out.2.1.trans k5, H3.out.2.2.step k5 (by simp), b5⟩
          clear k5 b5 H3
          have z3 := H5.out.2.2.1.cell 3
          have zl := H5.out.2.2.1.lt
          simp only [List.getElem?_toArray, List.getElem?_cons_zero, List.getElem?_cons_succ] at z3
          go_wp2_with fail
          refine (HLL.out.run _).mono ?_
          rintro e w6 ⟨⟨s', t', rfl, hst⟩, k6⟩
          clear z3 zl
          clear hst
          have k7 := k6.alloc (.cells #[.string ⟨s'.toArray⟩, .string ⟨t'.toArray⟩] 59)
          have b7 := Blk.new w6 59 #[.string ⟨s'.toArray⟩, .string ⟨t'.toArray⟩]
          go_upto_region 8 with fail
          obtain ⟨bl, hbl⟩ : ∃ bl, bl = w6.heap.size := ⟨_, rfl⟩
          obtain ⟨V7, hV7⟩ : ∃ V7, V7 = w6.alloc (.cells #[.string ⟨s'.toArray⟩, .string ⟨t'.toArray⟩] 59) := ⟨_, rfl⟩
          rw [← hV7] at k7 b7 ⊢
          rw [← hbl] at b7 ⊢
          clear hbl hV7 k6
          have H7 : Hid (Blk V7 b 29 (cmc x (.slice a1 x.ifs.length c1) (.slice a2 x.thens.length c2) (.slice a3 x.elses.length c3)).toArray ∧ Step [] [] w V7 ∧ Blk V7 bl 59 #[.string ⟨s'.toArray⟩, .string ⟨t'.toArray⟩] ∧ Blk V7 bt 55 #[.slice s1 0 q1, .slice s2 0 q2, .slice s3 0 q3]) := Lib.hid ⟨H5.out.1.step k7 (by simp), H5.out.2.1.trans k7, b7, H5.out.2.2.2.step k7 (by simp)⟩
          clear k7 b7 H5
          have xc := H7.out.1.cell
          have x3 := xc 3
          have x4 := xc 4
          have x6 := xc 6
          have x15 := xc 15
          clear xc
          simp only [cmc, List.getElem?_toArray, List.getElem?_cons_zero, List.getElem?_cons_succ] at x3 x4 x6 x15
          have xl := H7.out.1.lt
          have tc := H7.out.2.2.2.cell
          have t0 := tc 0
          have t1 := tc 1
          have t2 := tc 2
          clear tc
          have tl := H7.out.2.2.2.lt
          have lc := H7.out.2.2.1.cell
          have l0 := lc 0
          have l1 := lc 1
          clear lc
          have ll := H7.out.2.2.1.lt
          simp only [List.getElem?_toArray, List.getElem?_cons_zero, List.getElem?_cons_succ] at t0 t1 t2 l0 l1
          go_wp2_with fail
          exact bodyPost_ret (results_tmp rfl _ _ _) rfl ⟨rfl, H7.out.2.1⟩

theorem ReqKinds_walk (v0 : Value) (w : World) {b : Nat} (h0 : Value.okWide Try.prog w .any b 29 v0) (o0 : Op Try.prog w 29 v0.cells.toList) :
    Calls Try.prog 7 #[v0] w fun e w' => e = .returned (.bool true) ∧ Below w.heap.size w w' := by
  obtain ⟨x, a1, c1, a2, c2, a3, c3, rfl, hr, hb⟩ := cmd_in h0 o0
  exact (kinds20_any x a1 a2 a3 c1 c2 c3 w hr).mono fun e w' ⟨h1, h2⟩ => ⟨h1, h2.below0⟩
set_option maxRecDepth 100000 in
theorem ReqKinds_lifted (os : Os) (started : os.Started) (H : Type) (enc : TypeId × Value → H) :
    ReturnsInHanded {} Try.checked os 7 .any (Rows.reqKindsSpec.pre6 enc Try.prog Try.f7 Rows.reqKindsRow.domain false) (Rows.reqKindsSpec.post enc Try.prog Try.f7 false true false false) := by
  refine returnsInHanded_of_change_sized (C := Try.checked) (by kernel_rfl) started (by kernel_rfl) Try.func7
    (ChangeSpec.witness6 (enc := enc) (C := Try.checked) false ⟨#[], #[.agg #[.int .i64 0, .int .i64 0, .string ⟨#[]⟩, .int .i64 0, .string ⟨#[]⟩, .string ⟨#[]⟩, .string ⟨#[]⟩, .string ⟨#[]⟩, .int .i64 0, .int .i64 0, .string ⟨#[]⟩, .string ⟨#[]⟩, .bool false, .bool false, .int .i64 0, .slice none 0 0, .slice none 0 0, .slice none 0 0]], []⟩ 8 (by kernel_rfl) (by kernel_rfl) (by kernel_rfl) (by kernel_rfl)) ?_
  intro W base args ds gs before hval0 hW hcnd hsz0 _
  have hval : ∀ (j : Nat) t v, Try.f7.params[j]? = some t → args[j]? = some v → Value.okWide Try.prog W .any base t v := hval0
  have hsz : (DataW.weightsEach Try.prog (Try.f7.params.toList ++ Rows.reqKindsSpec.plain.varTypes Try.prog) (ds ++ gs)).all (· ≤ reachBytes) = true := hsz0
  have hW' := hW
  obtain ⟨p, q, hA0, hV, rfl, hfz, hnd⟩ := hW
  have hA : DataW.TrodAll enc Try.prog W 0 (fun _ => true) true Try.f7.params.toList args.toList ds p := hA0
  rw [Try.params7] at hA hval hsz
  obtain ⟨v0, vs0, d0, ds0, p0, q0, hargs, rfl, rfl, h0, r0⟩ := trodAll_cons hA
  obtain ⟨rfl, rfl, rfl⟩ := trodAll_nil r0
  obtain rfl : args = #[v0] := by cases args; simp_all
  obtain ⟨rfl, rfl⟩ := trodVars_none hV
  have lt0 : ∀ x ∈ p0, x.block < W.heap.size := by obtain ⟨m, hm⟩ := h0; exact DataW.trod_lt m _ _ _ hm
  have o0 := op_of hsz (j := 0) rfl rfl h0
  refine (ReqKinds_walk v0 W (hval 0 _ v0 rfl rfl) o0).mono fun e W' ⟨he, bel⟩ => ?_
  subst he
  exact ⟨_, rfl, _, _, _, [], _, [], hW', trodAll_mk1 (shut_bool Try.underlying4 _), (trodAll_cons_mk (Below.trod (by kernel_rfl) (by kernel_rfl) (of_decide_eq_true (by kernel_rfl)) h0 bel lt0) trodAll_mk0), rfl, bel.frame _, fun h => by cases h⟩

/-- The statement. -/
theorem ReqKinds_holds : Rows.ReqKindsSaid :=
  OpenClaim.holds_of_wide 7 Try.f7 rfl rfl rfl rfl rfl rfl rfl ⟨rfl, rfl, rfl, rfl, rfl⟩ rfl rfl rfl rfl rfl (by kernel_rfl) Try.func7 (by kernel_rfl)
    (of_decide_eq_true (by kernel_rfl)) (by unfold Func.isWrapper; rw [if_neg (of_decide_eq_false (by kernel_rfl))]; exact ⟨rfl, rfl⟩)
    (fun os started H enc _ => ReqKinds_lifted os started H enc)
#print axioms ReqKinds_holds
end Go.Proofs.Ytifjnpdnnfdcoaa
