/-
  The reference's Same, of two flat forms that are alike. Condition: at most 2^40 compares and acts.
-/
import Derived.Test.YtifjnpdnnfdcoaaReqD
import Derived.Deep.DeepCutAuto
import Derived.Deep.CutBlock
namespace Go.Proofs.Ytifjnpdnnfdcoaa
open Go.RowKit
set_option linter.unusedSimpArgs false
set_option linter.unusedVariables false
set_option maxRecDepth 100000

theorem neq_grant (f t : List UInt8) (r g : Bool) (w : World) : (binOp .neq 25 (.agg #[Str f, Str t, .bool r, .bool g]) (.agg #[Str f, Str t, .bool r, .bool g])).run Try.prog w = .ok (.bool false) w := by
  go_simp
theorem neq_cmp (x : Cp) (w : World) : (binOp .neq 77 (.agg #[Str x.key, .int .i64 x.what, .int .i64 x.rev, Str x.val]) (.agg #[Str x.key, .int .i64 x.what, .int .i64 x.rev, Str x.val])).run Try.prog w = .ok (.bool false) w := by
  go_simp
theorem neq_do (x : Da) (w : World) : (binOp .neq 80 (.agg #[.int .i64 x.kind, Str x.fr, Str x.to_, Str x.key, Str x.val, .int .i64 x.rev, .int .i64 x.most]) (.agg #[.int .i64 x.kind, Str x.fr, Str x.to_, Str x.key, Str x.val, .int .i64 x.rev, .int .i64 x.most])).run Try.prog w = .ok (.bool false) w := by
  go_simp
theorem blk2c (w : World) (t0 t1 : TypeId) (c0 c1 : Array Value) : Blk ((w.alloc (.cells c0 t0)).alloc (.cells c1 t1)) w.heap.size t0 c0 ∧ Blk ((w.alloc (.cells c0 t0)).alloc (.cells c1 t1)) (w.heap.size + 1) t1 c1 := by
  have s1 : ∀ o, (w.alloc o).heap.size = w.heap.size + 1 := fun o => by simp
  refine ⟨(Blk.new w t0 c0).alloc _, ?_⟩
  have := Blk.new (w.alloc (.cells c0 t0)) t1 c1
  rwa [s1] at this
set_option maxHeartbeats 16000000 in
theorem sameC_any (x : Cm) (a1 a2 a3 d1 d2 d3 : Option Addr) (c1 c2 c3 e1 e2 e3 : Nat) (w : World) (h1 : RdC w x a1 a2 a3) (h2 : RdC w x d1 d2 d3) (hl : LenC x) :
    Calls Try.prog 17 #[cmV x (.slice a1 x.ifs.length c1) (.slice a2 x.thens.length c2) (.slice a3 x.elses.length c3), cmV x (.slice d1 x.ifs.length e1) (.slice d2 x.thens.length e2) (.slice d3 x.elses.length e3)] w fun e w' => e = .returned (.bool true) ∧ Step [] [] w w' := by
  have H00 : Hid (Blk ((w.alloc (.cells (cmc x (.slice a1 x.ifs.length c1) (.slice a2 x.thens.length c2) (.slice a3 x.elses.length c3)).toArray 29)).alloc (.cells (cmc x (.slice d1 x.ifs.length e1) (.slice d2 x.thens.length e2) (.slice d3 x.elses.length e3)).toArray 29)) w.heap.size 29 (cmc x (.slice a1 x.ifs.length c1) (.slice a2 x.thens.length c2) (.slice a3 x.elses.length c3)).toArray ∧ Blk ((w.alloc (.cells (cmc x (.slice a1 x.ifs.length c1) (.slice a2 x.thens.length c2) (.slice a3 x.elses.length c3)).toArray 29)).alloc (.cells (cmc x (.slice d1 x.ifs.length e1) (.slice d2 x.thens.length e2) (.slice d3 x.elses.length e3)).toArray 29)) (w.heap.size + 1) 29 (cmc x (.slice d1 x.ifs.length e1) (.slice d2 x.thens.length e2) (.slice d3 x.elses.length e3)).toArray ∧ RdC ((w.alloc (.cells (cmc x (.slice a1 x.ifs.length c1) (.slice a2 x.thens.length c2) (.slice a3 x.elses.length c3)).toArray 29)).alloc (.cells (cmc x (.slice d1 x.ifs.length e1) (.slice d2 x.thens.length e2) (.slice d3 x.elses.length e3)).toArray 29)) x a1 a2 a3 ∧ RdC ((w.alloc (.cells (cmc x (.slice a1 x.ifs.length c1) (.slice a2 x.thens.length c2) (.slice a3 x.elses.length c3)).toArray 29)).alloc (.cells (cmc x (.slice d1 x.ifs.length e1) (.slice d2 x.thens.length e2) (.slice d3 x.elses.length e3)).toArray 29)) x d1 d2 d3 ∧ Step [] [] w ((w.alloc (.cells (cmc x (.slice a1 x.ifs.length c1) (.slice a2 x.thens.length c2) (.slice a3 x.elses.length c3)).toArray 29)).alloc (.cells (cmc x (.slice d1 x.ifs.length e1) (.slice d2 x.thens.length e2) (.slice d3 x.elses.length e3)).toArray 29))) := Lib.hid ⟨(blk2c w _ _ _ _).1, (blk2c w _ _ _ _).2, h1.step (((Step.refl [] w).alloc _).alloc _), h2.step (((Step.refl [] w).alloc _).alloc _), ((Step.refl [] w).alloc _).alloc _⟩
  have HL := Lib.hid hl
  clear h1 h2 hl
  go_enter Try.func17, Try.ntmps17
  go_upto_region 1 with fail
  change Code.wp _ _ _ _ ((w.alloc (.cells (cmc x (.slice a1 x.ifs.length c1) (.slice a2 x.thens.length c2) (.slice a3 x.elses.length c3)).toArray 29)).alloc (.cells (cmc x (.slice d1 x.ifs.length e1) (.slice d2 x.thens.length e2) (.slice d3 x.elses.length e3)).toArray 29))
  obtain ⟨b1, hb1⟩ : ∃ b1, b1 = w.heap.size := ⟨_, rfl⟩
  obtain ⟨V, hV⟩ : ∃ V, V = ((w.alloc (.cells (cmc x (.slice a1 x.ifs.length c1) (.slice a2 x.thens.length c2) (.slice a3 x.elses.length c3)).toArray 29)).alloc (.cells (cmc x (.slice d1 x.ifs.length e1) (.slice d2 x.thens.length e2) (.slice d3 x.elses.length e3)).toArray 29)) := ⟨_, rfl⟩
  have H0 : Hid (Blk V b1 29 (cmc x (.slice a1 x.ifs.length c1) (.slice a2 x.thens.length c2) (.slice a3 x.elses.length c3)).toArray ∧ Blk V (b1 + 1) 29 (cmc x (.slice d1 x.ifs.length e1) (.slice d2 x.thens.length e2) (.slice d3 x.elses.length e3)).toArray ∧ RdC V x a1 a2 a3 ∧ RdC V x d1 d2 d3 ∧ Step [] [] w V) := by rw [hV, hb1]; exact H00
  rw [← hV, ← hb1]
  clear hV hb1 H00
  have hq := neq_grant x.gf x.gt x.gr x.gw
  have pc := H0.out.1.cell
  have p0 := pc 0
  have p1 := pc 1
  have p2 := pc 2
  have p3 := pc 3
  have p4 := pc 4
  have p5 := pc 5
  have p6 := pc 6
  have p7 := pc 7
  have p8 := pc 8
  have p9 := pc 9
  have p10 := pc 10
  have p11 := pc 11
  have p12 := pc 12
  have p13 := pc 13
  have p14 := pc 14
  have p15 := pc 15
  have p16 := pc 16
  have p17 := pc 17
  clear pc
  simp only [cmc, List.getElem?_toArray, List.getElem?_cons_zero, List.getElem?_cons_succ] at p0 p1 p2 p3 p4 p5 p6 p7 p8 p9 p10 p11 p12 p13 p14 p15 p16 p17
  have pl := H0.out.1.lt
  have qc := H0.out.2.1.cell
  have q0 := qc 0
  have q1 := qc 1
  have q2 := qc 2
  have q3 := qc 3
  have q4 := qc 4
  have q5 := qc 5
  have q6 := qc 6
  have q7 := qc 7
  have q8 := qc 8
  have q9 := qc 9
  have q10 := qc 10
  have q11 := qc 11
  have q12 := qc 12
  have q13 := qc 13
  have q14 := qc 14
  have q15 := qc 15
  have q16 := qc 16
  have q17 := qc 17
  clear qc
  simp only [cmc, List.getElem?_toArray, List.getElem?_cons_zero, List.getElem?_cons_succ] at q0 q1 q2 q3 q4 q5 q6 q7 q8 q9 q10 q11 q12 q13 q14 q15 q16 q17
  have ql := H0.out.2.1.lt
  have hi : x.ifs.length ≤ 1099511627776 := HL.out.i
  have ht : x.thens.length ≤ 1099511627776 := HL.out.t
  have he : x.elses.length ≤ 1099511627776 := HL.out.e
  go_upto_block 0 with fail
  clear hq p0 q0 p1 q1 p2 q2 p3 q3 p4 q4 p5 q5 p6 q6 p7 q7 p8 q8 p9 q9 p10 q10 p11 q11 p12 q12 p13 q13 p14 q14 p15 q15 p16 q16 p17 q17 pl ql
  go_cut [] (fun wx => Hid (Step [] [] V wx))
  case first =>
    go_wp2_with fail
    go_loopw [5] (fun v W => ∃ k : Nat, v = .int .i64 k ∧ k ≤ x.ifs.length ∧ Hid (Step [] [] V W)) (fun v _ => x.ifs.length - (intOf v).toNat)
    case atStart => exact ⟨0, rfl, by omega, Step.refl _ _⟩
    case round =>
      rename World => W
      obtain ⟨k, rfl, hk, HW⟩ := hrel
      have pc := (H0.out.1.step HW.out (by simp)).cell
      have p15 := pc 15
      clear pc
      simp only [cmc, List.getElem?_toArray, List.getElem?_cons_zero, List.getElem?_cons_succ] at p15
      have pl := (H0.out.1.step HW.out (by simp)).lt
      have qc := (H0.out.2.1.step HW.out (by simp)).cell
      have q15 := qc 15
      clear qc
      simp only [cmc, List.getElem?_toArray, List.getElem?_cons_zero, List.getElem?_cons_succ] at q15
      have ql := (H0.out.2.1.step HW.out (by simp)).lt
      by_cases hlt : k < x.ifs.length
      · have hlt' : (k : Int) < x.ifs.length := by omega
        obtain ⟨e, he⟩ : ∃ e, x.ifs[k]? = some e := ⟨_, List.getElem?_eq_getElem hlt⟩
        have r1 := (H0.out.2.2.1.i).step0 HW.out
        have r2 := (H0.out.2.2.2.1.i).step0 HW.out
        obtain ⟨g, off, hs1⟩ := r1.some_ (by omega)
        obtain ⟨g2, off2, hs2⟩ := r2.some_ (by omega)
        rw [hs1] at r1 p15
        rw [hs2] at r2 q15
        clear hs1 hs2
        have c1 := rd_cp r1 he
        have c2 := rd_cp r2 he
        have gl : g < W.heap.size := by have := World.block_lt_of_cell? _ _ c1.1; simpa using this
        have gl2 : g2 < W.heap.size := by have := World.block_lt_of_cell? _ _ c2.1; simpa using this
        have hq := neq_cmp e
        clear r1 r2 he
        go_wp2_with fail
        go_quiet (fail)
        clear hq c1 c2 p15 q15 pl ql gl gl2
        go_wp2_with fail
        go_roundw
        case rel => exact ⟨k + 1, by go_num, by omega, HW.out.drewN _⟩
        case measure => simp [intOf]; omega
      · have hnl : ¬ (k : Int) < x.ifs.length := by omega
        go_wp2_with fail
        go_meet
        exact HW
  case rest =>
    rename World => V1
    have HS : Hid (Step [] [] V V1) := hcut
    clear hcut
    go_upto_block 2 with fail
    go_cut [] (fun wx => Hid (Step [] [] V wx))
    case first =>
      go_wp2_with fail
      go_loopw [6] (fun v W => ∃ k : Nat, v = .int .i64 k ∧ k ≤ x.thens.length ∧ Hid (Step [] [] V W)) (fun v _ => x.thens.length - (intOf v).toNat)
      case atStart => exact ⟨0, rfl, by omega, HS.out⟩
      case round =>
        rename World => W
        obtain ⟨k, rfl, hk, HW⟩ := hrel
        have pc := (H0.out.1.step HW.out (by simp)).cell
        have p16 := pc 16
        clear pc
        simp only [cmc, List.getElem?_toArray, List.getElem?_cons_zero, List.getElem?_cons_succ] at p16
        have pl := (H0.out.1.step HW.out (by simp)).lt
        have qc := (H0.out.2.1.step HW.out (by simp)).cell
        have q16 := qc 16
        clear qc
        simp only [cmc, List.getElem?_toArray, List.getElem?_cons_zero, List.getElem?_cons_succ] at q16
        have ql := (H0.out.2.1.step HW.out (by simp)).lt
        by_cases hlt : k < x.thens.length
        · have hlt' : (k : Int) < x.thens.length := by omega
          obtain ⟨e, he⟩ : ∃ e, x.thens[k]? = some e := ⟨_, List.getElem?_eq_getElem hlt⟩
          have r1 := (H0.out.2.2.1.t).step0 HW.out
          have r2 := (H0.out.2.2.2.1.t).step0 HW.out
          obtain ⟨g, off, hs1⟩ := r1.some_ (by omega)
          obtain ⟨g2, off2, hs2⟩ := r2.some_ (by omega)
          rw [hs1] at r1 p16
          rw [hs2] at r2 q16
          clear hs1 hs2
          have c1 := rd_da r1 he
          have c2 := rd_da r2 he
          have gl : g < W.heap.size := by have := World.block_lt_of_cell? _ _ c1.1; simpa using this
          have gl2 : g2 < W.heap.size := by have := World.block_lt_of_cell? _ _ c2.1; simpa using this
          have hq := neq_do e
          clear r1 r2 he
          go_wp2_with fail
          go_quiet (fail)
          clear hq c1 c2 p16 q16 pl ql gl gl2
          go_wp2_with fail
          go_roundw
          case rel => exact ⟨k + 1, by go_num, by omega, HW.out.drewN _⟩
          case measure => simp [intOf]; omega
        · have hnl : ¬ (k : Int) < x.thens.length := by omega
          go_wp2_with fail
          go_meet
          exact HW
    case rest =>
      rename World => V2
      have HS : Hid (Step [] [] V V2) := hcut
      clear hcut
      go_wp2_with fail
      go_loopw [7] (fun v W => ∃ k : Nat, v = .int .i64 k ∧ k ≤ x.elses.length ∧ Hid (Step [] [] V W)) (fun v _ => x.elses.length - (intOf v).toNat)
      case atStart => exact ⟨0, rfl, by omega, HS.out⟩
      case round =>
        rename World => W
        obtain ⟨k, rfl, hk, HW⟩ := hrel
        have pc := (H0.out.1.step HW.out (by simp)).cell
        have p17 := pc 17
        clear pc
        simp only [cmc, List.getElem?_toArray, List.getElem?_cons_zero, List.getElem?_cons_succ] at p17
        have pl := (H0.out.1.step HW.out (by simp)).lt
        have qc := (H0.out.2.1.step HW.out (by simp)).cell
        have q17 := qc 17
        clear qc
        simp only [cmc, List.getElem?_toArray, List.getElem?_cons_zero, List.getElem?_cons_succ] at q17
        have ql := (H0.out.2.1.step HW.out (by simp)).lt
        by_cases hlt : k < x.elses.length
        · have hlt' : (k : Int) < x.elses.length := by omega
          obtain ⟨e, he⟩ : ∃ e, x.elses[k]? = some e := ⟨_, List.getElem?_eq_getElem hlt⟩
          have r1 := (H0.out.2.2.1.e).step0 HW.out
          have r2 := (H0.out.2.2.2.1.e).step0 HW.out
          obtain ⟨g, off, hs1⟩ := r1.some_ (by omega)
          obtain ⟨g2, off2, hs2⟩ := r2.some_ (by omega)
          rw [hs1] at r1 p17
          rw [hs2] at r2 q17
          clear hs1 hs2
          have c1 := rd_da r1 he
          have c2 := rd_da r2 he
          have gl : g < W.heap.size := by have := World.block_lt_of_cell? _ _ c1.1; simpa using this
          have gl2 : g2 < W.heap.size := by have := World.block_lt_of_cell? _ _ c2.1; simpa using this
          have hq := neq_do e
          clear r1 r2 he
          go_wp2_with fail
          go_quiet (fail)
          clear hq c1 c2 p17 q17 pl ql gl gl2
          go_wp2_with fail
          go_roundw
          case rel => exact ⟨k + 1, by go_num, by omega, HW.out.drewN _⟩
          case measure => simp [intOf]; omega
        · have hnl : ¬ (k : Int) < x.elses.length := by omega
          go_wp2_with fail
          exact bodyPost_ret (results_tmp rfl _ _ _) rfl ⟨rfl, H0.out.2.2.2.2.trans HW.out⟩
end Go.Proofs.Ytifjnpdnnfdcoaa
