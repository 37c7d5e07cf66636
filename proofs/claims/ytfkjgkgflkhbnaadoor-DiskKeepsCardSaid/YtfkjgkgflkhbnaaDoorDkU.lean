/-
  The reference's Crash in memory. Conditions: the bounds of StB; the list of what is kept lies elsewhere.
-/
import Derived.Test.YtfkjgkgflkhbnaaDoorDkT
import Derived.Test.YtfkjgkgflkhbnaaDoorDkE
namespace Go.Proofs.YtfkjgkgflkhbnaaDoor
open Go.RowKit Go.Maps
set_option linter.unusedSimpArgs false
set_option linter.unusedVariables false
set_option maxRecDepth 100000


theorem crashE_take {keep : List Int} {E : List En} {k : Nat} {y : En} (h : E[k]? = some y) : crashE keep 0 (E.take (k + 1)) = crashE keep 0 (E.take k) ++ [crashF keep (cntL (E.take k)) y] := by
  have hk := (List.getElem?_eq_some_iff.1 h).1
  have hx := (List.getElem?_eq_some_iff.1 h).2
  rw [List.take_succ_eq_append_getElem hk, hx, crashE_app]
  simp [crashE]
def RcR (keep : List Int) (E : List En) (w : World) (k : Nat) (oa : Option Addr) (oc : Nat) (W : World) : Prop := Row W 3 oa k oc (enVs (crashE keep 0 (E.take k))) ∧ Step [] (blks oa) w W
theorem RcR.next {keep : List Int} {w W V w9 : World} {E : List En} {k oc c9 : Nat} {oa a9 : Option Addr} {y z : En} (h : RcR keep E w k oa oc W) (hy : E[k]? = some y) (hz : crashF keep (cntL (E.take k)) y = z) (sv : Step [] [] W V)
    (hr : Row w9 3 a9 (k + 1) c9 (enVs (crashE keep 0 (E.take k)) ++ enVs [z])) (st : Step (blks oa) (blks a9) V w9) : RcR keep E w (k + 1) a9 c9 w9 := by
  refine ⟨?_, (h.2.trans (sv.keep (blks oa))).trans st⟩
  rw [crashE_take hy, hz, enVs_app]
  exact hr
@[go_sem high] theorem run_cat_none {P : Program} (x : List UInt8) (h : x.length ≤ 9223372036854775807) (w : World) : (Op.stringOp .add ⟨x.toArray⟩ ByteArray.empty).run P w = .ok (.string ⟨x.toArray⟩) w := by
  have := run_cat (P := P) x [] (by simpa using h) w
  rw [List.append_nil] at this
  exact this
def RcP (keep : List Int) (s : St) (S : List Nat) (d : Nat) (w : World) (e : Ending) (w' : World) : Prop := e = .returned (.tuple #[]) ∧ ∃ S', Rf w' S' d (crashS s keep) ∧ Step S S' w w'

set_option maxHeartbeats 1000000 in
theorem rcrash_any (keep : List Int) (w : World) (S : List Nat) (d : Nat) (s : St) (ka : Option Addr) (kc : Nat) (h : Rf w S d s) (hB : StB s) (hk : Rd w 1 ka keep.length (keep.map (Value.int .i64))) (hkl : keep.length ≤ maxLen) : Calls Tryd.prog 34 #[.pointer (some ⟨d, 0, none⟩), .slice ka keep.length kc] w (RcP keep s S d w) := by
  have HX := Lib.hid (And.intro hB hk)
  have hnk : keep.length ≤ 9223372036854775807 := by unfold maxLen at hkl; omega
  obtain ⟨a, cap, h1⟩ := h
  have HD := Lib.hid h1
  have c0 := h1.blk.cell 0
  simp only [List.getElem?_toArray, List.getElem?_cons_zero, List.getElem?_cons_succ] at c0
  have hNl : s.E.length ≤ 1099511627776 := hB.len
  obtain ⟨N, hN⟩ : ∃ N, N = s.E.length := ⟨_, rfl⟩
  rw [← hN] at c0 hNl
  have HN := Lib.hid hN
  clear hN h1 hB hk hkl
  obtain ⟨i0, hi, hz0, hz1, hz2⟩ := info_parts Tryd.info_file
  have HI := Lib.hid (And.intro hi (And.intro hz0 (And.intro hz1 hz2)))
  clear hi hz0 hz1 hz2
  go_enter Tryd.func34, Tryd.ntmps34
  go_wp2_with fail
  go_loopw [4, 5, 6] (fun n l i W => ∃ (k oc : Nat) (oa : Option Addr), i = .int .i64 k ∧ k ≤ N ∧ l = .slice oa k oc ∧ n = .int .i64 (cntL (s.E.take k) : Nat) ∧ Hid (RcR keep s.E w k oa oc W)) (fun _ _ i _ => N - (intOf i).toNat)
  case atStart => exact ⟨0, 0, some ⟨w.heap.size, 0, none⟩, rfl, by omega, rfl, by simp [cntL], Lib.hid ⟨Row.empty w 77 3, by have := (Step.refl [] w).hold (.cells #[] 77); simpa [blks] using this⟩⟩
  case round =>
    rename World => W
    obtain ⟨k, oc, oa, rfl, hkN, rfl, rfl, HW⟩ := hrel
    have HDW := HD.out.step HW.out.2 (by simp)
    have c0' := HDW.blk.cell 0
    simp only [List.getElem?_toArray, List.getElem?_cons_zero, List.getElem?_cons_succ] at c0'
    rw [← HN.out] at c0'
    clear c0
    by_cases hlt : k < N
    · have hlt' : (k : Int) < N := by omega
      obtain ⟨y, hy⟩ : ∃ y, s.E[k]? = some y := ⟨_, List.getElem?_eq_getElem (by rw [← HN.out]; exact hlt)⟩
      obtain ⟨g, off, hs1⟩ := HDW.row.some_of_pos (by rw [← HN.out]; omega)
      have hr := HDW.row.rd
      rw [hs1] at hr c0'
      obtain ⟨z0, z1, z2⟩ := rd_en (E := s.E) hr hy
      have gl : g < W.heap.size := by have := World.block_lt_of_cell? _ _ z1; simpa using this
      obtain ⟨q0, hq0⟩ : ∃ q, q = cntL (s.E.take k) := ⟨_, rfl⟩
      have hq1 : q0 ≤ 1099511627776 := by
        have h3 := cntL_le (s.E.take k)
        rw [← hq0, List.length_take] at h3
        omega
      rw [← hq0]
      have HQ0 := Lib.hid hq0
      have hful : y.d.length + y.l.length ≤ 8388608 := by
        have := used_mem (List.mem_of_getElem? hy)
        have h2 := HX.out.1.used
        omega
      have HY := Lib.hid hy
      clear hr hs1 HDW hy hq0
      go_upto_region 6 with fail
      change Code.wp _ _ _ _ (W.alloc (.cells #[Str y.n, Str y.d, Str y.l] 77))
      have hB0 : Hid (Blk (W.alloc (.cells #[Str y.n, Str y.d, Str y.l] 77)) W.heap.size 77 #[Str y.n, Str y.d, Str y.l] ∧ Step [] [] W (W.alloc (.cells #[Str y.n, Str y.d, Str y.l] 77)) ∧ W.heap.size ∉ blks oa) := Lib.hid ⟨Blk.new W 77 _, (Step.refl [] W).alloc _, fun hm => by have := HW.out.1.lt _ hm; omega⟩
      obtain ⟨fb, hfb⟩ : ∃ fb, fb = W.heap.size := ⟨_, rfl⟩
      obtain ⟨V, hV⟩ : ∃ V, V = W.alloc (.cells #[Str y.n, Str y.d, Str y.l] 77) := ⟨_, rfl⟩
      rw [← hV, ← hfb] at hB0
      rw [← hV, ← hfb]
      have HFB := Lib.hid hfb
      clear hV hfb z0 z1 z2 gl c0'
      have b0 := hB0.out.1.cell 0
      have b1 := hB0.out.1.cell 1
      have b2 := hB0.out.1.cell 2
      simp only [List.getElem?_toArray, List.getElem?_cons_zero, List.getElem?_cons_succ] at b0 b1 b2
      have e1 := hB0.out.1.frozen 1
      have e2 := hB0.out.1.frozen 2
      have el := hB0.out.1.lt
      by_cases hl0 : y.l.length = 0
      · have hl0d : decide (0 < y.l.length) = false := decide_eq_false (by omega)
        have hl0i : decide ((0 : Int) < (y.l.length : Int)) = false := decide_eq_false (by omega)
        have HL0 : Hid (y.l = []) := Lib.hid (List.eq_nil_of_length_eq_zero hl0)
        clear hl0
        go_upto_region 13 with fail
        have HX9 : Hid (Blk (V.setCell ⟨fb, 2, none⟩ (.string ⟨#[]⟩)) fb 77 #[Str y.n, Str (y.d), Str []] ∧ Step [] [] W (V.setCell ⟨fb, 2, none⟩ (.string ⟨#[]⟩))) := Lib.hid ⟨(by simpa using hB0.out.1.set 2 (.string ⟨#[]⟩)), hB0.out.2.1.setCell (p := ⟨fb, 2, none⟩) (.inr (by simp [HFB.out])) _⟩
        obtain ⟨X, hX⟩ : ∃ X, X = V.setCell ⟨fb, 2, none⟩ (.string ⟨#[]⟩) := ⟨_, rfl⟩
        rw [← hX] at HX9
        rw [← hX]
        have HZ9 : Hid (crashF keep (cntL (s.E.take k)) y = ⟨y.n, y.d, []⟩) := Lib.hid (by rw [crashF, if_pos HL0.out]; have := HL0.out; cases y; simp_all)
        clear hX b0 b1 b2 e1 e2 el
        have b0 := HX9.out.1.cell 0
        have b1 := HX9.out.1.cell 1
        have b2 := HX9.out.1.cell 2
        simp only [List.getElem?_toArray, List.getElem?_cons_zero, List.getElem?_cons_succ] at b0 b1 b2
        have el := HX9.out.1.lt
        go_upto_region 4 with (at_builtin; refine wpList_append_row rfl (.tmp 59) (.tmp 61) 68 68 rfl 77 i0 _ 3 48 Tryd.underlying68 HI.out.1 HI.out.2.1 HI.out.2.2.1 HI.out.2.2.2 rfl rfl ((HW.out.1.step HX9.out.2 (by simp)).alloc _) rfl (Src.rd 68 77 Tryd.underlying68 (rd_blk' (xs := enVs [⟨y.n, y.d, []⟩]) (Blk.new X 77 _) 3 1 rfl) (enVs_one _)) (by unfold maxLen; omega) (by omega) (by omega) ?_; intro a9 c9 w9 hr9 st9; have H9 : Hid (RcR keep s.E w (k + 1) a9 c9 w9) := Lib.hid (HW.out.next HY.out HZ9.out (HX9.out.2.alloc _) hr9 st9); clear hr9 st9)
        clear b0 b1 b2 el
        go_wp2_with fail
        go_roundw
        case rel => exact ⟨k + 1, c9, a9, by go_num, by omega, rfl, by rw [cnt_succ HY.out, if_pos HL0.out, ← HQ0.out], H9⟩
        case measure => simp [intOf]; omega
      · have hl0d : decide (0 < y.l.length) = true := decide_eq_true (by omega)
        have hl0i : decide ((0 : Int) < (y.l.length : Int)) = true := decide_eq_true (by omega)
        have HLN : Hid (¬ y.l = []) := Lib.hid (fun e => hl0 (by rw [e]; rfl))
        by_cases hk0 : keep.length = 0
        · have hk0d : decide (0 < keep.length) = false := decide_eq_false (by omega)
          have hk0i : decide ((0 : Int) < (keep.length : Int)) = false := decide_eq_false (by omega)
          have HK0 := Lib.hid hk0
          clear hk0
          have e1d := hB0.out.1.drew.frozen 1
          have b1d := hB0.out.1.drew.cell 1
          have b2d := hB0.out.1.drew.cell 2
          have eld := hB0.out.1.drew.lt
          simp only [List.getElem?_toArray, List.getElem?_cons_zero, List.getElem?_cons_succ] at b1d b2d
          have h0l : (0 : Int) ≤ (y.l.length : Int) := by omega
          have hcat : y.d.length + ([] : List UInt8).length ≤ 9223372036854775807 := by simp; omega
          have hcat2 : y.d.length ≤ 9223372036854775807 := by omega
          go_upto_region 10 with fail
          refine still_tail 7 (by kernel_rfl) (by kernel_rfl) ?_
          simp only [List.take_succ_cons, List.take_zero, List.drop_succ_cons, List.drop_zero]
          repeat still_step
          refine wpStill_nil ?_
          go_upto_region 13 with fail
          have HX9 : Hid (Blk (((V.setCell ⟨fb, 1, none⟩ (Str (y.d))).setCell ⟨fb, 2, none⟩ (.string ⟨#[]⟩)).drew) fb 77 #[Str y.n, Str (y.d), Str []] ∧ Step [] [] W (((V.setCell ⟨fb, 1, none⟩ (Str (y.d))).setCell ⟨fb, 2, none⟩ (.string ⟨#[]⟩)).drew)) := Lib.hid ⟨(by have := ((hB0.out.1.set 1 (Str (y.d))).set 2 (.string ⟨#[]⟩)).drew; simpa using this), ((hB0.out.2.1.setCell (p := ⟨fb, 1, none⟩) (.inr (by simp [HFB.out])) _).setCell (p := ⟨fb, 2, none⟩) (.inr (by simp [HFB.out])) _).drew⟩
          obtain ⟨X, hX⟩ : ∃ X, X = ((V.setCell ⟨fb, 1, none⟩ (Str (y.d))).setCell ⟨fb, 2, none⟩ (.string ⟨#[]⟩)).drew := ⟨_, rfl⟩
          rw [← hX] at HX9
          rw [← hX]
          have HZ9 : Hid (crashF keep (cntL (s.E.take k)) y = ⟨y.n, y.d, []⟩) := Lib.hid (by rw [crashF, if_neg HLN.out, if_pos (List.eq_nil_of_length_eq_zero HK0.out)])
          clear hX b0 b1 b2 e1 e2 el
          have b0 := HX9.out.1.cell 0
          have b1 := HX9.out.1.cell 1
          have b2 := HX9.out.1.cell 2
          simp only [List.getElem?_toArray, List.getElem?_cons_zero, List.getElem?_cons_succ] at b0 b1 b2
          have el := HX9.out.1.lt
          go_upto_region 4 with (at_builtin; refine wpList_append_row rfl (.tmp 59) (.tmp 61) 68 68 rfl 77 i0 _ 3 48 Tryd.underlying68 HI.out.1 HI.out.2.1 HI.out.2.2.1 HI.out.2.2.2 rfl rfl ((HW.out.1.step HX9.out.2 (by simp)).alloc _) rfl (Src.rd 68 77 Tryd.underlying68 (rd_blk' (xs := enVs [⟨y.n, y.d, []⟩]) (Blk.new X 77 _) 3 1 rfl) (enVs_one _)) (by unfold maxLen; omega) (by omega) (by omega) ?_; intro a9 c9 w9 hr9 st9; have H9 : Hid (RcR keep s.E w (k + 1) a9 c9 w9) := Lib.hid (HW.out.next HY.out HZ9.out (HX9.out.2.alloc _) hr9 st9); clear hr9 st9)
          clear b0 b1 b2 el
          go_wp2_with fail
          go_roundw
          case rel => exact ⟨k + 1, c9, a9, by go_num, by omega, rfl, by rw [cnt_succ HY.out, if_neg HLN.out, ← HQ0.out]; go_num, H9⟩
          case measure => simp [intOf]; omega
        · have hk0d : decide (0 < keep.length) = true := decide_eq_true (by omega)
          have hk0i : decide ((0 : Int) < (keep.length : Int)) = true := decide_eq_true (by omega)
          obtain ⟨J, hJ⟩ : ∃ J, J = q0 % keep.length := ⟨_, rfl⟩
          have hJl : J < keep.length := by rw [hJ]; exact Nat.mod_lt _ (by omega)
          have hJi : (J : Int) < (keep.length : Int) := by omega
          obtain ⟨kv, hkv⟩ : ∃ v, keep[J]? = some v := ⟨_, List.getElem?_eq_getElem hJl⟩
          have hrd := (HX.out.2.step0 HW.out.2).step0 hB0.out.2.1
          obtain ⟨g2, off2, hka⟩ := hrd.some_ (by omega)
          have hrd2 := hrd
          rw [hka] at hrd2
          have y0 := hrd2.cell g2 off2 none rfl J _ (by rw [List.getElem?_map, hkv]; rfl)
          have yl : g2 < V.heap.size := by have := World.block_lt_of_cell? _ _ y0; simpa using this
          have HKA := Lib.hid hka
          rw [hka]
          have hk1 : ¬ (keep.length : Int) = 0 := by omega
          have ht1 : (q0 : Int).tmod (keep.length : Int) = (J : Int) := by rw [hJ, Int.ofNat_tmod]
          obtain ⟨U, hU⟩ : ∃ U, U = (kv % 18446744073709551616).toNat := ⟨_, rfl⟩
          have hw1 : IntKind.u64.wrap kv = (U : Int) := by rw [hU]; simp [IntKind.wrap, IntKind.bits, IntKind.signed]; omega
          obtain ⟨Q, hQ⟩ : ∃ Q, Q = U % (y.l.length + 1) := ⟨_, rfl⟩
          have hQl : Q ≤ y.l.length := by rw [hQ]; have := Nat.mod_lt U (show 0 < y.l.length + 1 by omega); omega
          have hQi : (Q : Int) ≤ (y.l.length : Int) := by omega
          have hw2 : IntKind.u64.wrap ((y.l.length : Int) + 1) = (y.l.length : Int) + 1 := IntWalk.u64_in _ (by omega)
          have ht2 : (U : Int).tmod ((y.l.length : Int) + 1) = (Q : Int) := by
            rw [hQ]
            exact (Int.ofNat_tmod U (y.l.length + 1)).symm
          have hn2 : ¬ (y.l.length : Int) + 1 = 0 := by omega
          have hw3 : IntKind.i64.wrap (Q : Int) = (Q : Int) := IntWalk.i64_in _ (by omega)
          have HJ := Lib.hid (And.intro hJ (And.intro hkv (And.intro hU hQ)))
          have HKN := Lib.hid (show ¬ keep = [] by rintro rfl; simp at hJl)
          clear hk0 hJ hkv hrd hrd2 hU hQ hka
          go_upto_region 9 with fail
          refine wp_region_quiet_lit (by kernel_rfl) (by kernel_rfl) ?_
          repeat go_big_quiet_step (fail)
          refine wpQuiet_nil ?_
          intro V2 hw'
          obtain ⟨nq, hW⟩ := hw'
          have hB2 : Hid (Blk V2 fb 77 #[Str y.n, Str y.d, Str y.l] ∧ Step [] [] W V2 ∧ W.heap.size ≤ fb) := Lib.hid (by rw [hW]; exact ⟨hB0.out.1.step ((Step.refl [] V).drewN nq) (by simp), hB0.out.2.1.drewN nq, by rw [HFB.out]; exact Nat.le_refl _⟩)
          clear b0 b1 b2 e1 e2 el hW y0 yl hw1 hw2 hw3 ht1 ht2 hn2 hk1
          have b0 := hB2.out.1.cell 0
          have b1 := hB2.out.1.cell 1
          have b2 := hB2.out.1.cell 2
          have e1 := hB2.out.1.frozen 1
          have e2 := hB2.out.1.frozen 2
          have el := hB2.out.1.lt
          have e1d := hB2.out.1.drew.frozen 1
          have b1d := hB2.out.1.drew.cell 1
          have b2d := hB2.out.1.drew.cell 2
          have eld := hB2.out.1.drew.lt
          simp only [List.getElem?_toArray, List.getElem?_cons_zero, List.getElem?_cons_succ] at b0 b1 b2 b1d b2d
          obtain ⟨tk, htk⟩ : ∃ tk, y.l.take Q = tk := ⟨_, rfl⟩
          have hcat : y.d.length + tk.length ≤ 9223372036854775807 := by rw [← htk, List.length_take]; omega
          go_upto_region 10 with fail
          refine still_tail 7 (by kernel_rfl) (by kernel_rfl) ?_
          simp only [List.take_succ_cons, List.take_zero, List.drop_succ_cons, List.drop_zero]
          repeat still_step
          refine wpStill_nil ?_
          have HTK := Lib.hid htk
          go_upto_region 13 with fail
          clear e1d b1d b2d eld htk hcat
          rw [← HKA.out]
          have HX9 : Hid (Blk (((V2.setCell ⟨fb, 1, none⟩ (Str (y.d ++ tk))).setCell ⟨fb, 2, none⟩ (.string ⟨#[]⟩)).drew) fb 77 #[Str y.n, Str (y.d ++ tk), Str []] ∧ Step [] [] W (((V2.setCell ⟨fb, 1, none⟩ (Str (y.d ++ tk))).setCell ⟨fb, 2, none⟩ (.string ⟨#[]⟩)).drew)) := Lib.hid ⟨(by have := ((hB2.out.1.set 1 (Str (y.d ++ tk))).set 2 (.string ⟨#[]⟩)).drew; simpa using this), ((hB2.out.2.1.setCell (p := ⟨fb, 1, none⟩) (.inr hB2.out.2.2) _).setCell (p := ⟨fb, 2, none⟩) (.inr hB2.out.2.2) _).drew⟩
          obtain ⟨X, hX⟩ : ∃ X, X = ((V2.setCell ⟨fb, 1, none⟩ (Str (y.d ++ tk))).setCell ⟨fb, 2, none⟩ (.string ⟨#[]⟩)).drew := ⟨_, rfl⟩
          rw [← hX] at HX9
          rw [← hX]
          have HZ9 : Hid (crashF keep (cntL (s.E.take k)) y = ⟨y.n, y.d ++ tk, []⟩) := Lib.hid (by obtain ⟨y1, y2, y3, y4⟩ := HJ.out; rw [crashF, if_neg HLN.out, if_neg HKN.out, ← HQ0.out, keepK, ← y1, List.getD_eq_getElem?_getD, y2, ← HTK.out, y4, y3]; rfl)
          clear hX b0 b1 b2 e1 e2 el
          have b0 := HX9.out.1.cell 0
          have b1 := HX9.out.1.cell 1
          have b2 := HX9.out.1.cell 2
          simp only [List.getElem?_toArray, List.getElem?_cons_zero, List.getElem?_cons_succ] at b0 b1 b2
          have el := HX9.out.1.lt
          go_upto_region 4 with (at_builtin; refine wpList_append_row rfl (.tmp 59) (.tmp 61) 68 68 rfl 77 i0 _ 3 48 Tryd.underlying68 HI.out.1 HI.out.2.1 HI.out.2.2.1 HI.out.2.2.2 rfl rfl ((HW.out.1.step HX9.out.2 (by simp)).alloc _) rfl (Src.rd 68 77 Tryd.underlying68 (rd_blk' (xs := enVs [⟨y.n, y.d ++ tk, []⟩]) (Blk.new X 77 _) 3 1 rfl) (enVs_one _)) (by unfold maxLen; omega) (by omega) (by omega) ?_; intro a9 c9 w9 hr9 st9; have H9 : Hid (RcR keep s.E w (k + 1) a9 c9 w9) := Lib.hid (HW.out.next HY.out HZ9.out (HX9.out.2.alloc _) hr9 st9); clear hr9 st9)
          clear b0 b1 b2 el
          go_wp2_with fail
          go_roundw
          case rel => exact ⟨k + 1, c9, a9, by go_num, by omega, rfl, by rw [cnt_succ HY.out, if_neg HLN.out, ← HQ0.out]; go_num, H9⟩
          case measure => simp [intOf]; omega
    · have hnl : ¬ (k : Int) < N := by omega
      have hke : Hid (k = s.E.length) := Lib.hid (by rw [← HN.out]; omega)
      have HDV := Lib.hid HDW
      have b0 := HDW.blk.frozen 0
      have b2 := HDW.blk.frozen 2
      have b3 := HDW.blk.frozen 3
      have cc := HDW.blk.cell 2
      have cd := HDW.blk.cell 3
      simp only [List.getElem?_toArray, List.getElem?_cons_zero, List.getElem?_cons_succ] at cc cd
      have dl := HDW.blk.lt
      clear HDW
      go_wp2_with fail
      have hdb : d ∉ blks oa := fun hm => by
        rcases HW.out.2.fresh d hm with h | h
        · simp at h
        · have := HD.out.blk.lt; omega
      obtain ⟨v10, hv10⟩ : ∃ v, v = ((W.setCell ⟨d, 0, none⟩ (.slice oa k oc)).setCell ⟨d, 3, none⟩ (.bool false)).setCell ⟨d, 2, none⟩ (.int .i64 (-1)) := ⟨_, rfl⟩
      have hkk : Step [d] [d] W v10 := by
        rw [hv10]
        exact (((Step.refl [d] W).setCell (p := ⟨d, 0, none⟩) (.inl (by simp)) _).setCell (p := ⟨d, 3, none⟩) (.inl (by simp)) _).setCell (p := ⟨d, 2, none⟩) (.inl (by simp)) _
      have hbk := ((HDV.out.blk.set 0 (.slice oa k oc)).set 3 (.bool false)).set 2 (.int .i64 (-1))
      rw [← hv10] at hbk ⊢
      have hs1 : Step S (d :: blks oa) w v10 := (HW.out.2.wide (T := S) (S'' := d :: blks oa) (by simp) (by
        intro j hj
        rcases List.mem_cons.1 hj with rfl | hj
        · exact .inl HD.out.memd
        · exact .inr (.inl hj))).trans (hkk.wide (T := d :: blks oa) (by simp) (by intro j hj; exact .inl hj))
      have hlen : (crashE keep 0 s.E).length = k := by rw [crashE_len, ← hke.out]
      refine bodyPost_end (results_none rfl _ _ _) rfl ⟨rfl, d :: blks oa, ⟨oa, oc, rfl, ?_, ?_, hdb⟩, hs1⟩
      · show Blk v10 d 70 (rdc (.slice oa (crashE keep 0 s.E).length oc) s.room (-1) false)
        rw [hlen]
        simpa using hbk
      · show Row v10 3 oa (crashE keep 0 s.E).length oc (enVs (crashE keep 0 s.E))
        have h9 := HW.out.1
        rw [hke.out, List.take_length, ← hke.out] at h9
        rw [hlen]
        exact h9.step hkk (by intro j hj hm; simp only [List.mem_singleton] at hm; exact hdb (hm ▸ hj))

end Go.Proofs.YtfkjgkgflkhbnaaDoor
