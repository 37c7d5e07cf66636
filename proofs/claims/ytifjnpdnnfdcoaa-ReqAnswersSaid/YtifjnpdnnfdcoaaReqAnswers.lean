/-
  ReqAnswers: any answer has the bytes that the document says, or the error, and comes back from them. No condition beyond the row's.
-/
import Derived.Test.YtifjnpdnnfdcoaaReqS
import Derived.Test.YtifjnpdnnfdcoaaAnsRef
import Derived.Test.YtifjnpdnnfdcoaaAnsDec
import Derived.Test.YtifjnpdnnfdcoaaAnsSame
import Derived.Test.YtifjnpdnnfdcoaaOpen
import Derived.Test.YtifjnpdnnfdcoaaRows
namespace Go.Proofs.Ytifjnpdnnfdcoaa
open Go.RowKit Go.Lib Go.ChangeShapes Go.WideShapes Go.ChangeAt
set_option linter.unusedSimpArgs false
set_option linter.unusedVariables false
set_option maxRecDepth 100000

theorem Op.fieldN {P : Program} {w : World} {t : TypeId} {cs : List Value} {fs : Array Field} (ht : P.underlying t = some (.struct fs)) (h : Op P w t cs) (i off : Nat) (T : TypeId) (hf : (fs[i]?).map (fun f => (f.offset, f.type)) = some (off, T)) : Op P w T ((cs.drop off).take (P.cellsOf T)) := by
  cases hfi : fs[i]? with
  | none => simp [hfi] at hf
  | some f =>
    simp only [hfi, Option.map_some, Option.some.injEq, Prod.mk.injEq] at hf
    have := (h.struct ht).2 i f hfi
    rwa [hf.1, hf.2] at this
theorem wf_n {x : Int} (h : (Lit.int .i64 x).wf = true) : -9223372036854775808 ≤ x ∧ x < 9223372036854775808 := by
  simp [Lit.wf, IntKind.min, IntKind.max, IntKind.signed, IntKind.bits] at h
  omega
theorem op_pr {w : World} {cs : List Value} (h : Op Try.prog w 127 cs) : ∃ c : Pr, cs = prc c ∧ PrB c := by
  obtain ⟨hl, _⟩ := h.struct Try.underlying127
  rw [show Try.prog.cellsOf 127 = 4 by kernel_rfl] at hl
  obtain ⟨c0, c1, c2, c3, rfl⟩ : ∃ a0 a1 a2 a3, cs = [a0, a1, a2, a3] := by
    match cs, hl with
    | [a0, a1, a2, a3], _ => exact ⟨a0, a1, a2, a3, rfl⟩
  have g0 := h.fieldN Try.underlying127 0 0 9 rfl
  rw [show Try.prog.cellsOf 9 = 1 by kernel_rfl] at g0
  simp only [List.drop_succ_cons, List.drop_zero, List.take_succ_cons, List.take_zero] at g0
  obtain ⟨x0, e0, w0⟩ := g0.str Try.underlying9
  have g1 := h.fieldN Try.underlying127 1 1 9 rfl
  rw [show Try.prog.cellsOf 9 = 1 by kernel_rfl] at g1
  simp only [List.drop_succ_cons, List.drop_zero, List.take_succ_cons, List.take_zero] at g1
  obtain ⟨x1, e1, w1⟩ := g1.str Try.underlying9
  have g2 := h.fieldN Try.underlying127 2 2 3 rfl
  rw [show Try.prog.cellsOf 3 = 1 by kernel_rfl] at g2
  simp only [List.drop_succ_cons, List.drop_zero, List.take_succ_cons, List.take_zero] at g2
  obtain ⟨x2, e2, w2⟩ := g2.int Try.underlying3
  have w2' := wf_n w2
  have g3 := h.fieldN Try.underlying127 3 3 3 rfl
  rw [show Try.prog.cellsOf 3 = 1 by kernel_rfl] at g3
  simp only [List.drop_succ_cons, List.drop_zero, List.take_succ_cons, List.take_zero] at g3
  obtain ⟨x3, e3, w3⟩ := g3.int Try.underlying3
  have w3' := wf_n w3
  simp only [List.cons.injEq, and_true] at e0 e1 e2 e3
  subst e0 e1 e2 e3
  exact ⟨⟨x0, x1, x2, x3⟩, rfl, ⟨w2'.2, w3'.2, by simp only; omega, by simp only; omega⟩⟩
theorem op_om {w : World} {cs : List Value} (h : Op Try.prog w 125 cs) : ∃ d : Om, cs = omc d ∧ (OtB d.o ∧ Rd w 4 d.a d.o.pairs.length (prcs d.o.pairs)) := by
  obtain ⟨hl, _⟩ := h.struct Try.underlying125
  rw [show Try.prog.cellsOf 125 = 3 by kernel_rfl] at hl
  obtain ⟨c0, c1, c2, rfl⟩ : ∃ a0 a1 a2, cs = [a0, a1, a2] := by
    match cs, hl with
    | [a0, a1, a2], _ => exact ⟨a0, a1, a2, rfl⟩
  have g0 := h.fieldN Try.underlying125 0 0 123 rfl
  rw [show Try.prog.cellsOf 123 = 1 by kernel_rfl] at g0
  simp only [List.drop_succ_cons, List.drop_zero, List.take_succ_cons, List.take_zero] at g0
  obtain ⟨s0, n0, k0, e0, _, _, _, h0⟩ := g0.slice Try.underlying123 (sz := 4) (by kernel_rfl)
  obtain ⟨l0, hl0, hr0, hq0⟩ := rd_of (w := w) prc 4 (by omega) (fun _ => rfl) PrB (n := n0) (a := s0) (fun i hi => by
    obtain ⟨cs', hl', hc, ho⟩ := h0 i hi
    obtain ⟨x, hx, hb⟩ := op_pr ho
    subst hx
    exact ⟨x, hc, hb⟩)
  subst hl0
  have g1 := h.fieldN Try.underlying125 1 1 4 rfl
  rw [show Try.prog.cellsOf 4 = 1 by kernel_rfl] at g1
  simp only [List.drop_succ_cons, List.drop_zero, List.take_succ_cons, List.take_zero] at g1
  obtain ⟨x1, e1⟩ := g1.bool Try.underlying4
  have g2 := h.fieldN Try.underlying125 2 2 3 rfl
  rw [show Try.prog.cellsOf 3 = 1 by kernel_rfl] at g2
  simp only [List.drop_succ_cons, List.drop_zero, List.take_succ_cons, List.take_zero] at g2
  obtain ⟨x2, e2, w2⟩ := g2.int Try.underlying3
  have w2' := wf_n w2
  simp only [List.cons.injEq, and_true] at e0 e1 e2
  subst e0 e1 e2
  exact ⟨⟨⟨l0, x1, x2⟩, s0, k0⟩, rfl, ⟨w2'.2, hq0⟩, hr0⟩
theorem op_an {w : World} {cs : List Value} (h : Op Try.prog w 64 cs) : ∃ (x : An) (m : List Om) (a : Option Addr) (c : Nat), cs = anc x (.slice a m.length c) ∧ m.map (·.o) = x.outs ∧ RdO w a m ∧ AnB x ∧ m.length ≤ 4398046511104 := by
  obtain ⟨hl, _⟩ := h.struct Try.underlying64
  rw [show Try.prog.cellsOf 64 = 7 by kernel_rfl] at hl
  obtain ⟨c0, c1, c2, c3, c4, c5, c6, rfl⟩ : ∃ a0 a1 a2 a3 a4 a5 a6, cs = [a0, a1, a2, a3, a4, a5, a6] := by
    match cs, hl with
    | [a0, a1, a2, a3, a4, a5, a6], _ => exact ⟨a0, a1, a2, a3, a4, a5, a6, rfl⟩
  have g0 := h.fieldN Try.underlying64 0 0 3 rfl
  rw [show Try.prog.cellsOf 3 = 1 by kernel_rfl] at g0
  simp only [List.drop_succ_cons, List.drop_zero, List.take_succ_cons, List.take_zero] at g0
  obtain ⟨x0, e0, w0⟩ := g0.int Try.underlying3
  have w0' := wf_n w0
  have g1 := h.fieldN Try.underlying64 1 1 3 rfl
  rw [show Try.prog.cellsOf 3 = 1 by kernel_rfl] at g1
  simp only [List.drop_succ_cons, List.drop_zero, List.take_succ_cons, List.take_zero] at g1
  obtain ⟨x1, e1, w1⟩ := g1.int Try.underlying3
  have w1' := wf_n w1
  have g2 := h.fieldN Try.underlying64 2 2 38 rfl
  rw [show Try.prog.cellsOf 38 = 1 by kernel_rfl] at g2
  simp only [List.drop_succ_cons, List.drop_zero, List.take_succ_cons, List.take_zero] at g2
  obtain ⟨x2, e2, w2⟩ := g2.int Try.underlying38
  have w2' := wf_n w2
  have g3 := h.fieldN Try.underlying64 3 3 3 rfl
  rw [show Try.prog.cellsOf 3 = 1 by kernel_rfl] at g3
  simp only [List.drop_succ_cons, List.drop_zero, List.take_succ_cons, List.take_zero] at g3
  obtain ⟨x3, e3, w3⟩ := g3.int Try.underlying3
  have w3' := wf_n w3
  have g4 := h.fieldN Try.underlying64 4 4 4 rfl
  rw [show Try.prog.cellsOf 4 = 1 by kernel_rfl] at g4
  simp only [List.drop_succ_cons, List.drop_zero, List.take_succ_cons, List.take_zero] at g4
  obtain ⟨x4, e4⟩ := g4.bool Try.underlying4
  have g5 := h.fieldN Try.underlying64 5 5 62 rfl
  rw [show Try.prog.cellsOf 62 = 1 by kernel_rfl] at g5
  simp only [List.drop_succ_cons, List.drop_zero, List.take_succ_cons, List.take_zero] at g5
  obtain ⟨s5, n5, k5, e5, q1, q2, q3, h5⟩ := g5.slice Try.underlying62 (sz := 3) (by kernel_rfl)
  obtain ⟨l5, hl5, hr5, hq5⟩ := rd_of (w := w) omc 3 (by omega) (fun _ => rfl) (fun d => OtB d.o ∧ Rd w 4 d.a d.o.pairs.length (prcs d.o.pairs)) (n := n5) (a := s5) (fun i hi => by
    obtain ⟨cs', hl', hc, ho⟩ := h5 i hi
    obtain ⟨x, hx, hb⟩ := op_om ho
    subst hx
    exact ⟨x, hc, hb⟩)
  subst hl5
  have g6 := h.fieldN Try.underlying64 6 6 9 rfl
  rw [show Try.prog.cellsOf 9 = 1 by kernel_rfl] at g6
  simp only [List.drop_succ_cons, List.drop_zero, List.take_succ_cons, List.take_zero] at g6
  obtain ⟨x6, e6, w6⟩ := g6.str Try.underlying9
  simp only [List.cons.injEq, and_true] at e0 e1 e2 e3 e4 e5 e6
  subst e0 e1 e2 e3 e4 e5 e6
  refine ⟨⟨x0, x1, x2, x3, x4, l5.map (·.o), x6⟩, l5, s5, k5, rfl, rfl, ⟨hr5, fun d hd => (hq5 d hd).2⟩, ⟨w0'.2, w1'.2, w2'.2, w3'.2, by simp only; omega, fun o ho => ?_⟩, by rw [show Try.prog.bytesOf 125 = 40 by kernel_rfl] at q3; omega⟩
  obtain ⟨d, hd, rfl⟩ := List.mem_map.1 ho
  exact (hq5 d hd).1
theorem okWide_aggN {P : Program} {w : World} {r : Reach} {base : Nat} {t : TypeId} {fs : Array Field} {v : Value} (ht : P.underlying t = some (.struct fs)) (h : Value.okWide P w r base t v) : ∃ cs, v = .agg cs ∧ cs.size = P.cellsOf t := by
  simp only [Value.okWide, ht] at h
  obtain ⟨cs, h1, h2, _⟩ := h
  exact ⟨cs, h1, h2⟩
/-- An answer by value. -/
theorem ans_in {w : World} {b : Nat} {v : Value} (hv : Value.okWide Try.prog w .any b 64 v) (h : Op Try.prog w 64 v.cells.toList) : ∃ (x : An) (m : List Om) (a : Option Addr) (c : Nat), v = anV x (.slice a m.length c) ∧ m.map (·.o) = x.outs ∧ RdO w a m ∧ AnB x ∧ m.length ≤ 4398046511104 := by
  obtain ⟨cs, rfl, _⟩ := okWide_aggN Try.underlying64 hv
  obtain ⟨x, m, a, c, hx, h1, h2, h3, h4⟩ := op_an h
  refine ⟨x, m, a, c, ?_, h1, h2, h3, h4⟩
  obtain ⟨l⟩ := cs
  have : l = anc x (.slice a m.length c) := hx
  subst this
  rfl
theorem wtO_light (m : List Om) (h : ∀ d ∈ m, d.o.pairs.length ≤ 100) : wtO (m.map (·.o)) ≤ 101 * m.length := by
  induction m with
  | nil => simp [wtO]
  | cons d m ih =>
    have h1 := h d (by simp)
    have h2 := ih (fun y hy => h y (by simp [hy]))
    have e : wtO ((d :: m).map (·.o)) = d.o.pairs.length + 1 + wtO (m.map (·.o)) := by simp [wtO]
    rw [e, List.length_cons]
    omega
theorem light_small {x : An} {m : List Om} (h : LightA x m) (ho : m.map (·.o) = x.outs) (hB : AnB x) : SmA x := by
  refine smA_of hB ?_
  have := wtO_light m (fun d hd => (h.prs d hd).1)
  have h2 := h.outs
  rw [← ho]
  omega
theorem ansB_pos (x : An) : 0 < (ansB x).length := by
  rw [ansB, ansIts, itsB_cons, List.length_append, nI_B]
  have : 0 < (numB x.client.toNat).length := by simp [numB]
  omega
set_option maxHeartbeats 8000000 in
theorem answers20_any (x : An) (m : List Om) (a : Option Addr) (c : Nat) (w : World) (hr : RdO w a m) (ho : m.map (·.o) = x.outs) (hB : AnB x) (hn : m.length ≤ 4398046511104) :
    Calls Try.prog 8 #[anV x (.slice a m.length c)] w fun e w' => e = .returned (.bool true) ∧ Step [] [] w w' := by
  have H00 : Hid (Blk (w.alloc (.cells (anc x (.slice a m.length c)).toArray 64)) w.heap.size 64 (anc x (.slice a m.length c)).toArray ∧ RdO (w.alloc (.cells (anc x (.slice a m.length c)).toArray 64)) a m ∧ Step [] [] w (w.alloc (.cells (anc x (.slice a m.length c)).toArray 64))) := Lib.hid ⟨Blk.new w _ _, hr.step ((Step.refl [] w).alloc _), (Step.refl [] w).alloc _⟩
  have HO := Lib.hid (And.intro ho (And.intro hB hn))
  clear hr ho hB hn
  go_enter Try.func8, Try.ntmps8
  go_upto_region 1 with fail
  change Code.wp _ _ _ _ (w.alloc (.cells (anc x (.slice a m.length c)).toArray 64))
  obtain ⟨b, hb⟩ : ∃ b, b = w.heap.size := ⟨_, rfl⟩
  obtain ⟨V, hV⟩ : ∃ V, V = (w.alloc (.cells (anc x (.slice a m.length c)).toArray 64)) := ⟨_, rfl⟩
  rw [← hV, ← hb] at H00
  have H0 := H00
  rw [← hV]
  try rw [← hb]
  clear hV hb H00
  go_wp2_with fail
  refine (awake20_true V).mono ?_
  rintro e w1 ⟨rfl, k1⟩
  have H1 : Hid (Blk w1 b 64 (anc x (.slice a m.length c)).toArray ∧ RdO w1 a m ∧ Step [] [] w w1) := Lib.hid ⟨H0.out.1.step k1 (by simp), H0.out.2.1.step k1, H0.out.2.2.trans k1⟩
  clear k1 H0
  go_wp2_with (refine wpList_loadRow (T := 64) (b := b) (T' := 64) (cs := (anc x (.slice a m.length c)).toArray) rfl (.tmp 1) rfl rfl Try.sAns H1.out.1 ?_)
  refine (heavy_any x m a c w1 H1.out.2.1 HO.out.1 HO.out.2.2).mono ?_
  rintro e w2 ⟨g, rfl, hg, k2⟩
  have H2 : Hid (Blk w2 b 64 (anc x (.slice a m.length c)).toArray ∧ RdO w2 a m ∧ Step [] [] w w2) := Lib.hid ⟨H1.out.1.step k2 (by simp), H1.out.2.1.step k2, H1.out.2.2.trans k2⟩
  clear k2 H1
  cases g with
  | true =>
    clear hg
    go_wp2_with fail
    exact bodyPost_ret (results_tmp rfl _ _ _) rfl ⟨rfl, H2.out.2.2⟩
  | false =>
    have HSM := Lib.hid (light_small (hg rfl) HO.out.1 HO.out.2.1)
    clear hg
    go_wp2_with (refine wpList_loadRow (T := 64) (b := b) (T' := 64) (cs := (anc x (.slice a m.length c)).toArray) rfl (.tmp 1) rfl rfl Try.sAns H2.out.1 ?_)
    refine (encodeA_any x m a c w2 H2.out.2.1 HO.out.1 HO.out.2.1 HSM.out.ln HSM.out.nn).mono ?_
    rintro e w3 ⟨rfl, k3⟩
    have H3 : Hid (Blk w3 b 64 (anc x (.slice a m.length c)).toArray ∧ RdO w3 a m ∧ Step [] [] w w3) := Lib.hid ⟨H2.out.1.step k3 (by simp), H2.out.2.1.step k3, H2.out.2.2.trans k3⟩
    clear k3 H2
    go_wp2_with (refine wpList_loadRow (T := 64) (b := b) (T' := 64) (cs := (anc x (.slice a m.length c)).toArray) rfl (.tmp 1) rfl rfl Try.sAns H3.out.1 ?_)
    refine (ransB_any x m a c w3 H3.out.2.1 HO.out.1 HO.out.2.1 HSM.out.ln HSM.out.nn HSM.out.it).mono ?_
    rintro e w4 ⟨rfl, k4⟩
    rw [show refAB x = encA x from refAB_enc x HSM.out.ln]
    have H4 : Hid (Blk w4 b 64 (anc x (.slice a m.length c)).toArray ∧ RdO w4 a m ∧ Step [] [] w w4) := Lib.hid ⟨H3.out.1.step k4 (by simp), H3.out.2.1.step k4, H3.out.2.2.trans k4⟩
    clear k4 H3
    obtain ⟨⟨s, ee⟩, hse⟩ : ∃ p, p = encA x := ⟨_, rfl⟩
    rw [← hse]
    by_cases h0 : ee = 0
    · subst h0
      obtain ⟨hrt, hbs⟩ := encA_some hse.symm
      have HRT := Lib.hid hrt
      have HSB := Lib.hid hbs
      have hpos : 0 < s.length := by rw [hbs]; exact ansB_pos x
      have hsl : s.length ≤ 2097152 := by rw [hbs]; exact (rightA_of hrt).2.2
      clear hrt hbs hse
      go_wp2_with fail
      refine (decodeA_any s w4 (by omega)).mono ?_
      rintro e w5 ⟨k5, h5⟩
      rw [show decA s = some x by rw [HSB.out]; exact decA_right HRT.out] at h5
      rcases h5 with ⟨y, m7, a7, c7, hy, rfl, hm7, hr7⟩ | ⟨h5, _⟩
      · injection hy with hy
        subst hy
        have HM7 := Lib.hid (And.intro hm7 hr7)
        have H5 : Hid (Blk w5 b 64 (anc x (.slice a m.length c)).toArray ∧ RdO w5 a m ∧ Step [] [] w w5) := Lib.hid ⟨H4.out.1.step k5 (by simp), H4.out.2.1.step k5, H4.out.2.2.trans k5⟩
        clear hm7 hr7 k5 H4
        have HN : Hid (Blk (w5.alloc (.cells anZ7 64)) w5.heap.size 64 anZ7) := Lib.hid (Blk.new w5 _ _)
        go_upto_region 12 with (refine wpList_storeRow (T := 64) (b := w5.heap.size) (T' := 64) (cs := anZ7) (vs := (anc x (.slice a7 m7.length c7)).toArray) rfl (.tmp 7) (.tmp 40) rfl rfl rfl Try.sAns HN.out rfl (anc_one _ _ rfl) ?_; intro U hU ss)
        have kk : Step [] [] w5 U := ((Step.refl [] w5).alloc _).out1' ss (by simp)
        obtain ⟨b7, hb⟩ : ∃ b, b = w5.heap.size := ⟨_, rfl⟩
        rw [← hb] at hU ⊢
        obtain ⟨V7, hUU⟩ : ∃ V, V = U := ⟨_, rfl⟩
        rw [← hUU] at hU kk ⊢
        clear ss HN hb hUU
        have H6 : Hid (Blk V7 b 64 (anc x (.slice a m.length c)).toArray ∧ RdO V7 a m ∧ Step [] [] w V7 ∧ Blk V7 b7 64 (anc x (.slice a7 m7.length c7)).toArray ∧ RdO V7 a7 m7) := Lib.hid ⟨H5.out.1.step kk (by simp), H5.out.2.1.step kk, H5.out.2.2.trans kk, hU, HM7.out.2.step kk⟩
        clear kk hU H5
        go_wp2_with fail
        refine (decodeA_any (s ++ [0]) V7 (by rw [List.length_append]; simp; omega)).mono ?_
        rintro e w6 ⟨k6, h6⟩
        rw [show decA (s ++ [0]) = none by rw [HSB.out]; exact decA_more HRT.out (by simp)] at h6
        rcases h6 with ⟨_, _, _, _, h6, _⟩ | ⟨_, rfl⟩
        · cases h6
        · skip
          have H7 : Hid (Blk w6 b 64 (anc x (.slice a m.length c)).toArray ∧ RdO w6 a m ∧ Step [] [] w w6 ∧ Blk w6 b7 64 (anc x (.slice a7 m7.length c7)).toArray ∧ RdO w6 a7 m7) := Lib.hid ⟨H6.out.1.step k6 (by simp), H6.out.2.1.step k6, H6.out.2.2.1.trans k6, H6.out.2.2.2.1.step k6 (by simp), H6.out.2.2.2.2.step k6⟩
          clear k6 H6
          have HN : Hid (Blk (w6.alloc (.cells anZ7 64)) w6.heap.size 64 anZ7) := Lib.hid (Blk.new w6 _ _)
          go_upto_region 13 with (refine wpList_storeRow (T := 64) (b := w6.heap.size) (T' := 64) (cs := anZ7) (vs := anZ7) rfl (.tmp 9) (.tmp 46) rfl rfl rfl Try.sAns HN.out rfl anZ7_one ?_; intro U hU ss)
          have kk : Step [] [] w6 U := ((Step.refl [] w6).alloc _).out1' ss (by simp)
          obtain ⟨b9, hb⟩ : ∃ b, b = w6.heap.size := ⟨_, rfl⟩
          rw [← hb] at hU ⊢
          obtain ⟨V9, hUU⟩ : ∃ V, V = U := ⟨_, rfl⟩
          rw [← hUU] at hU kk ⊢
          clear ss HN hb hUU
          have H8 : Hid (Blk V9 b 64 (anc x (.slice a m.length c)).toArray ∧ RdO V9 a m ∧ Step [] [] w V9 ∧ Blk V9 b7 64 (anc x (.slice a7 m7.length c7)).toArray ∧ RdO V9 a7 m7) := Lib.hid ⟨H7.out.1.step kk (by simp), H7.out.2.1.step kk, H7.out.2.2.1.trans kk, H7.out.2.2.2.1.step kk (by simp), H7.out.2.2.2.2.step kk⟩
          clear kk hU H7
          obtain ⟨n1, hn1⟩ : ∃ n : Nat, s.length = n + 1 := ⟨s.length - 1, by omega⟩
          have q1 : IntKind.i64.wrap ((s.length : Int) - 1) = n1 := by rw [show ((s.length : Int) - 1) = (n1 : Int) by omega]; exact IntWalk.i64_in _ (by omega)
          have q3 : n1 ≤ s.length := by omega
          have HN1 : Hid (n1 < (ansB x).length) := Lib.hid (by rw [← HSB.out]; omega)
          clear hn1
          go_wp2_with fail
          refine (decodeA_any (s.take n1) V9 (by rw [List.length_take]; omega)).mono ?_
          rintro e wa ⟨ka, ha⟩
          rw [show decA (s.take n1) = none by rw [HSB.out]; exact decA_cut HRT.out HN1.out] at ha
          rcases ha with ⟨_, _, _, _, ha, _⟩ | ⟨_, rfl⟩
          · cases ha
          · skip
            have H9 : Hid (Blk wa b 64 (anc x (.slice a m.length c)).toArray ∧ RdO wa a m ∧ Step [] [] w wa ∧ Blk wa b7 64 (anc x (.slice a7 m7.length c7)).toArray ∧ RdO wa a7 m7) := Lib.hid ⟨H8.out.1.step ka (by simp), H8.out.2.1.step ka, H8.out.2.2.1.trans ka, H8.out.2.2.2.1.step ka (by simp), H8.out.2.2.2.2.step ka⟩
            clear ka H8 q1 q3
            have HN : Hid (Blk (wa.alloc (.cells anZ7 64)) wa.heap.size 64 anZ7) := Lib.hid (Blk.new wa _ _)
            go_upto_region 14 with (refine wpList_storeRow (T := 64) (b := wa.heap.size) (T' := 64) (cs := anZ7) (vs := anZ7) rfl (.tmp 11) (.tmp 55) rfl rfl rfl Try.sAns HN.out rfl anZ7_one ?_; intro U hU ss)
            have kk : Step [] [] wa U := ((Step.refl [] wa).alloc _).out1' ss (by simp)
            obtain ⟨b11, hb⟩ : ∃ b, b = wa.heap.size := ⟨_, rfl⟩
            rw [← hb] at hU ⊢
            obtain ⟨Vb, hUU⟩ : ∃ V, V = U := ⟨_, rfl⟩
            rw [← hUU] at hU kk ⊢
            clear ss HN hb hUU
            have HZ : Hid (Blk Vb b 64 (anc x (.slice a m.length c)).toArray ∧ RdO Vb a m ∧ Step [] [] w Vb ∧ Blk Vb b7 64 (anc x (.slice a7 m7.length c7)).toArray ∧ RdO Vb a7 m7) := Lib.hid ⟨H9.out.1.step kk (by simp), H9.out.2.1.step kk, H9.out.2.2.1.trans kk, H9.out.2.2.2.1.step kk (by simp), H9.out.2.2.2.2.step kk⟩
            clear kk hU H9
            have HLN : Hid (m.length ≤ 2097152 ∧ ∀ d ∈ m, d.o.pairs.length ≤ 2097152) := Lib.hid ⟨by have h1 := HSM.out.ln.o; rw [← HO.out.1, List.length_map] at h1; exact h1, fun d hd => HSM.out.ln.p _ (by rw [← HO.out.1]; exact List.mem_map.2 ⟨d, hd, rfl⟩)⟩
            have fc := HZ.out.1.cell
            have f0 := fc 0
            have f1 := fc 1
            have f2 := fc 2
            have f3 := fc 3
            have f4 := fc 4
            have f5 := fc 5
            have f6 := fc 6
            clear fc
            simp only [anc, List.getElem?_toArray, List.getElem?_cons_zero, List.getElem?_cons_succ] at f0 f1 f2 f3 f4 f5 f6
            have fl := HZ.out.1.lt
            have gc := HZ.out.2.2.2.1.cell
            have g0 := gc 0
            have g1 := gc 1
            have g2 := gc 2
            have g3 := gc 3
            have g4 := gc 4
            have g5 := gc 5
            have g6 := gc 6
            clear gc
            simp only [anc, List.getElem?_toArray, List.getElem?_cons_zero, List.getElem?_cons_succ] at g0 g1 g2 g3 g4 g5 g6
            have gl := HZ.out.2.2.2.1.lt
            go_wp2_with fail
            refine (sameA_any x m m7 a a7 c c7 Vb HZ.out.2.1 HZ.out.2.2.2.2 (by rw [HO.out.1, HM7.out.1]) HLN.out.1 HLN.out.2).mono ?_
            rintro e Vc ⟨rfl, kc⟩
            have HY := Lib.hid (HZ.out.2.2.1.trans kc)
            clear kc
            go_wp2_with fail
            exact bodyPost_ret (results_tmp rfl _ _ _) rfl ⟨rfl, HY.out⟩
      · cases h5
    · have h0d : (ee == 0) = false := by simp [h0]
      clear hse
      go_wp2_with fail
      exact bodyPost_ret (results_tmp rfl _ _ _) rfl ⟨rfl, H4.out.2.2⟩

theorem ReqAnswers_walk (v0 : Value) (w : World) {b : Nat} (h0 : Value.okWide Try.prog w .any b 64 v0) (o0 : Op Try.prog w 64 v0.cells.toList) :
    Calls Try.prog 8 #[v0] w fun e w' => e = .returned (.bool true) ∧ Below w.heap.size w w' := by
  obtain ⟨x, m, a, c, rfl, ho, hr, hB, hn⟩ := ans_in h0 o0
  exact (answers20_any x m a c w hr ho hB hn).mono fun e w' ⟨h1, h2⟩ => ⟨h1, h2.below0⟩
set_option maxRecDepth 100000 in
theorem ReqAnswers_lifted (os : Os) (started : os.Started) (H : Type) (enc : TypeId × Value → H) :
    ReturnsInHanded {} Try.checked os 8 .any (Rows.reqAnswersSpec.pre6 enc Try.prog Try.f8 Rows.reqAnswersRow.domain false) (Rows.reqAnswersSpec.post enc Try.prog Try.f8 false true false false) := by
  refine returnsInHanded_of_change_sized (C := Try.checked) (by kernel_rfl) started (by kernel_rfl) Try.func8
    (ChangeSpec.witness6 (enc := enc) (C := Try.checked) false ⟨#[], #[.agg #[.int .i64 0, .int .i64 0, .int .i64 0, .int .i64 0, .bool false, .slice none 0 0, .string ⟨#[]⟩]], []⟩ 8 (by kernel_rfl) (by kernel_rfl) (by kernel_rfl) (by kernel_rfl)) ?_
  intro W base args ds gs before hval0 hW hcnd hsz0 _
  have hval : ∀ (j : Nat) t v, Try.f8.params[j]? = some t → args[j]? = some v → Value.okWide Try.prog W .any base t v := hval0
  have hsz : (DataW.weightsEach Try.prog (Try.f8.params.toList ++ Rows.reqAnswersSpec.plain.varTypes Try.prog) (ds ++ gs)).all (· ≤ reachBytes) = true := hsz0
  have hW' := hW
  obtain ⟨p, q, hA0, hV, rfl, hfz, hnd⟩ := hW
  have hA : DataW.TrodAll enc Try.prog W 0 (fun _ => true) true Try.f8.params.toList args.toList ds p := hA0
  rw [Try.params8] at hA hval hsz
  obtain ⟨v0, vs0, d0, ds0, p0, q0, hargs, rfl, rfl, h0, r0⟩ := trodAll_cons hA
  obtain ⟨rfl, rfl, rfl⟩ := trodAll_nil r0
  obtain rfl : args = #[v0] := by cases args; simp_all
  obtain ⟨rfl, rfl⟩ := trodVars_none hV
  have lt0 : ∀ x ∈ p0, x.block < W.heap.size := by obtain ⟨m, hm⟩ := h0; exact DataW.trod_lt m _ _ _ hm
  have o0 := op_of hsz (j := 0) rfl rfl h0
  refine (ReqAnswers_walk v0 W (hval 0 _ v0 rfl rfl) o0).mono fun e W' ⟨he, bel⟩ => ?_
  subst he
  exact ⟨_, rfl, _, _, _, [], _, [], hW', trodAll_mk1 (shut_bool Try.underlying4 _), (trodAll_cons_mk (Below.trod (by kernel_rfl) (by kernel_rfl) (of_decide_eq_true (by kernel_rfl)) h0 bel lt0) trodAll_mk0), rfl, bel.frame _, fun h => by cases h⟩

/-- The statement. -/
theorem ReqAnswers_holds : Rows.ReqAnswersSaid :=
  OpenClaim.holds_of_wide 8 Try.f8 rfl rfl rfl rfl rfl rfl rfl ⟨rfl, rfl, rfl, rfl, rfl⟩ rfl rfl rfl rfl rfl (by kernel_rfl) Try.func8 (by kernel_rfl)
    (of_decide_eq_true (by kernel_rfl)) (by unfold Func.isWrapper; rw [if_neg (of_decide_eq_false (by kernel_rfl))]; exact ⟨rfl, rfl⟩)
    (fun os started H enc _ => ReqAnswers_lifted os started H enc)
#print axioms ReqAnswers_holds
end Go.Proofs.Ytifjnpdnnfdcoaa
