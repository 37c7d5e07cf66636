/-
  The reference's num and Right. Condition: at most 2^42 entries.
-/
import Derived.Test.YtihklmomipidaaaMsgJ
namespace Go.Proofs.Ytihklmomipidaaa
open Go.RowKit
set_option linter.unusedSimpArgs false
set_option linter.unusedVariables false
set_option maxRecDepth 100000

theorem num10_any (n : Int) (w : World) : Calls Try.prog 30 #[.int .i64 n] w fun e w' => e = .returned (.bool (okN n)) ∧ w = w' := by
  by_cases h0 : 0 ≤ n
  · have h0d : decide (0 ≤ n) = true := decide_eq_true h0
    by_cases h4 : n ≤ 1099511627776
    · have HE : Hid (okN n = true) := Lib.hid (by simp [okN]; omega)
      have h4d : decide (n ≤ 1099511627776) = true := decide_eq_true h4
      clear h0 h4
      go_enter Try.func30, Try.ntmps30
      go_wp2_with fail
      exact bodyPost_ret (results_tmp rfl _ _ _) rfl ⟨by rw [HE.out]; rfl, rfl⟩
    · have HE : Hid (okN n = false) := Lib.hid (by simp [okN]; omega)
      have h4d : decide (n ≤ 1099511627776) = false := decide_eq_false h4
      clear h0 h4
      go_enter Try.func30, Try.ntmps30
      go_wp2_with fail
      exact bodyPost_ret (results_tmp rfl _ _ _) rfl ⟨by rw [HE.out]; rfl, rfl⟩
  · have h0d : decide (0 ≤ n) = false := decide_eq_false h0
    have HE : Hid (okN n = false) := Lib.hid (by simp [okN]; omega)
    clear h0
    go_enter Try.func30, Try.ntmps30
    go_wp2_with fail
    exact bodyPost_ret (results_tmp rfl _ _ _) rfl ⟨by rw [HE.out]; rfl, rfl⟩
theorem clean_data0 (x : Rw) : (cleanL x).data.length ≤ x.data.length := by
  unfold cleanL
  repeat' split
  all_goals simp [rwZ]
set_option maxHeartbeats 4000000 in
theorem refRight_any (x : Rw) (a : Option Addr) (cap : Nat) (w : World) (hr : Rd w 3 a x.es.length (entcs x.es)) (hl : x.es.length ≤ 4398046511104) (hd : x.data.length ≤ 140737488351232) :
    Calls Try.prog 15 #[rwV x (.slice a x.es.length cap)] w fun e w' => e = .returned (.bool (isKind x.kind && rightR (cleanL x))) ∧ Step [] [] w w' := by
  have H0 : Hid (Blk (w.alloc (.cells (rwc x (.slice a x.es.length cap)).toArray 24)) w.heap.size 24 (rwc x (.slice a x.es.length cap)).toArray ∧ Rd (w.alloc (.cells (rwc x (.slice a x.es.length cap)).toArray 24)) 3 a x.es.length (entcs x.es) ∧ Step [] [] w (w.alloc (.cells (rwc x (.slice a x.es.length cap)).toArray 24))) := ⟨Blk.new w _ _, hr.alloc _, (Step.refl [] w).alloc _⟩
  have HL := Lib.hid (And.intro hl (And.intro (clean_len x) hd))
  clear hr hl hd
  go_enter Try.func15, Try.ntmps15
  go_upto_region 1 with fail
  obtain ⟨b, hb⟩ : ∃ b, b = w.heap.size := ⟨_, rfl⟩
  obtain ⟨V, hV⟩ : ∃ V, V = w.alloc (.cells (rwc x (.slice a x.es.length cap)).toArray 24) := ⟨_, rfl⟩
  rw [← hV, ← hb] at H0
  rw [show w.alloc (.cells #[.int .i64 x.kind, .int .i64 x.src, .int .i64 x.term, .int .i64 x.index, .int .i64 x.last, .int .i64 x.commit, .int .i64 x.round, .bool x.yes, .slice a x.es.length cap, .string ⟨x.data.toArray⟩] 24) = V from hV.symm, ← hb]
  clear hV hb
  have ra := H0.out.1.rw
  have rl := H0.out.1.lt
  go_wp2_with fail
  refine (refClean_any x a cap V H0.out.2.1 HL.out.1).mono ?_
  rintro e w3 ⟨a3, cap3, rfl, r3, k3⟩
  obtain ⟨y, hy⟩ : ∃ y, y = cleanL x := ⟨_, rfl⟩
  have HY : Hid (y.es.length ≤ 4398046511104 ∧ y.data.length ≤ 140737488351232) := by
    rw [hy]
    exact ⟨Nat.le_trans HL.out.2.1 HL.out.1, Nat.le_trans (clean_data0 x) HL.out.2.2⟩
  rw [← hy] at r3 ⊢
  have H3 := Lib.hid (And.intro (H0.out.2.2.trans k3) r3)
  have HC := Lib.hid hy
  clear k3 r3 hy H0 ra rl
  cases hik : isKind x.kind with
  | false =>
    go_wp2_with fail
    exact bodyPost_ret (results_tmp rfl _ _ _) rfl ⟨by rw [hik]; rfl, H3.out.1.alloc _⟩
  | true =>
    have HIK := Lib.hid hik
    clear hik
    go_upto_region 2 with fail
    obtain ⟨V1, hV1⟩ : ∃ V1, V1 = w3.alloc (.cells (rwc y (.slice a3 y.es.length cap3)).toArray 24) := ⟨_, rfl⟩
    obtain ⟨b3, hb3⟩ : ∃ b, b = w3.heap.size := ⟨_, rfl⟩
    have H1 : Hid (Blk V1 b3 24 (rwc y (.slice a3 y.es.length cap3)).toArray ∧ Rd V1 3 a3 y.es.length (entcs y.es) ∧ Step [] [] w V1) := by
      rw [hV1, hb3]
      exact ⟨Blk.new w3 _ _, H3.out.2.alloc _, H3.out.1.alloc _⟩
    rw [show w3.alloc (.cells #[.int .i64 y.kind, .int .i64 y.src, .int .i64 y.term, .int .i64 y.index, .int .i64 y.last, .int .i64 y.commit, .int .i64 y.round, .bool y.yes, .slice a3 y.es.length cap3, .string ⟨y.data.toArray⟩] 24) = V1 from hV1.symm, ← hb3]
    clear hV1 hb3 H3
    have ra := H1.out.1.rw
    have rl := H1.out.1.lt
    have hDL := HY.out.2
    have hEL := HY.out.1
    go_wp2_with fail
    refine (num10_any y.src _).mono ?_
    rintro e Xsrc ⟨rfl, rfl⟩
    cases hzsrc : okN y.src with
    | false =>
      have HE : Hid (rightR y = false) := Lib.hid (by simp [rightR, hzsrc])
      clear hzsrc
      go_wp2_with fail
      exact bodyPost_ret (results_tmp rfl _ _ _) rfl ⟨by rw [HIK.out, ← HC.out, HE.out]; rfl, H1.out.2.2⟩
    | true =>
      have HZsrc := Lib.hid hzsrc
      clear hzsrc
      go_wp2_with fail
      refine (num10_any y.term _).mono ?_
      rintro e Xterm ⟨rfl, rfl⟩
      cases hzterm : okN y.term with
      | false =>
        have HE : Hid (rightR y = false) := Lib.hid (by simp [rightR, hzterm])
        clear hzterm
        go_wp2_with fail
        exact bodyPost_ret (results_tmp rfl _ _ _) rfl ⟨by rw [HIK.out, ← HC.out, HE.out]; rfl, H1.out.2.2⟩
      | true =>
        have HZterm := Lib.hid hzterm
        clear hzterm
        go_wp2_with fail
        refine (num10_any y.index _).mono ?_
        rintro e Xindex ⟨rfl, rfl⟩
        cases hzindex : okN y.index with
        | false =>
          have HE : Hid (rightR y = false) := Lib.hid (by simp [rightR, hzindex])
          clear hzindex
          go_wp2_with fail
          exact bodyPost_ret (results_tmp rfl _ _ _) rfl ⟨by rw [HIK.out, ← HC.out, HE.out]; rfl, H1.out.2.2⟩
        | true =>
          have HZindex := Lib.hid hzindex
          clear hzindex
          go_wp2_with fail
          refine (num10_any y.last _).mono ?_
          rintro e Xlast ⟨rfl, rfl⟩
          cases hzlast : okN y.last with
          | false =>
            have HE : Hid (rightR y = false) := Lib.hid (by simp [rightR, hzlast])
            clear hzlast
            go_wp2_with fail
            exact bodyPost_ret (results_tmp rfl _ _ _) rfl ⟨by rw [HIK.out, ← HC.out, HE.out]; rfl, H1.out.2.2⟩
          | true =>
            have HZlast := Lib.hid hzlast
            clear hzlast
            go_wp2_with fail
            refine (num10_any y.commit _).mono ?_
            rintro e Xcommit ⟨rfl, rfl⟩
            cases hzcommit : okN y.commit with
            | false =>
              have HE : Hid (rightR y = false) := Lib.hid (by simp [rightR, hzcommit])
              clear hzcommit
              go_wp2_with fail
              exact bodyPost_ret (results_tmp rfl _ _ _) rfl ⟨by rw [HIK.out, ← HC.out, HE.out]; rfl, H1.out.2.2⟩
            | true =>
              have HZcommit := Lib.hid hzcommit
              clear hzcommit
              go_wp2_with fail
              refine (num10_any y.round _).mono ?_
              rintro e Xround ⟨rfl, rfl⟩
              cases hzround : okN y.round with
              | false =>
                have HE : Hid (rightR y = false) := Lib.hid (by simp [rightR, hzround])
                clear hzround
                go_wp2_with fail
                exact bodyPost_ret (results_tmp rfl _ _ _) rfl ⟨by rw [HIK.out, ← HC.out, HE.out]; rfl, H1.out.2.2⟩
              | true =>
                have HZround := Lib.hid hzround
                clear hzround
                by_cases hdl : (1048576 : Int) < y.data.length
                · have HE : Hid (rightR y = false) := Lib.hid (by simp [rightR]; intros; omega)
                  have hdd : decide ((1048576 : Int) < y.data.length) = true := decide_eq_true hdl
                  clear hdl
                  go_wp2_with fail
                  exact bodyPost_ret (results_tmp rfl _ _ _) rfl ⟨by rw [HIK.out, ← HC.out, HE.out]; rfl, H1.out.2.2⟩
                · have hdd : decide ((1048576 : Int) < y.data.length) = false := decide_eq_false hdl
                  by_cases hel : (8 : Int) < y.es.length
                  · have HE : Hid (rightR y = false) := Lib.hid (by simp [rightR]; intros; omega)
                    have hed : decide ((8 : Int) < y.es.length) = true := decide_eq_true hel
                    clear hdl hel
                    go_wp2_with fail
                    exact bodyPost_ret (results_tmp rfl _ _ _) rfl ⟨by rw [HIK.out, ← HC.out, HE.out]; rfl, H1.out.2.2⟩
                  · have hed : decide ((8 : Int) < y.es.length) = false := decide_eq_false hel
                    have HR : Hid (rightR y = esOk (y.index + 1) y.es) := Lib.hid (by simp only [rightR, HZsrc.out, HZterm.out, HZindex.out, HZlast.out, HZcommit.out, HZround.out, Bool.true_and, show decide (y.data.length ≤ 1048576) = true from decide_eq_true (by omega), show decide (y.es.length ≤ 8) = true from decide_eq_true (by omega)])
                    have hix : 0 ≤ y.index ∧ y.index ≤ 1099511627776 := (okN_iff _).1 HZindex.out
                    have h8n : y.es.length ≤ 8 := by omega
                    clear hdl hel
                    go_wp2_with fail
                    clear hdd hed ra rl
                    go_loopw [5] (fun v W => ∃ k : Nat, v = .int .i64 k ∧ k ≤ y.es.length ∧ Hid (Step [] [] V1 W ∧ ∀ (j : Nat) e, j < k → y.es[j]? = some e → entOk (y.index + 1 + j) e = true)) (fun v _ => y.es.length - (intOf v).toNat)
                    case atStart => exact ⟨0, rfl, by omega, Step.refl _ _, by intro j e hj; omega⟩
                    case round =>
                      rename World => W
                      obtain ⟨k, rfl, hk, HW⟩ := hrel
                      have ra := (H1.out.1.step HW.out.1 (by simp)).rw
                      have rl := (H1.out.1.step HW.out.1 (by simp)).lt
                      by_cases hlt : k < y.es.length
                      · have hlt' : (k : Int) < y.es.length := by omega
                        obtain ⟨e, he⟩ : ∃ e, y.es[k]? = some e := ⟨_, List.getElem?_eq_getElem hlt⟩
                        have hrd := H1.out.2.1.step0 HW.out.1
                        obtain ⟨g, off, rfl⟩ := hrd.some_ (by omega)
                        have ce := rd_ent hrd he
                        have gl : g < W.heap.size := by have := World.block_lt_of_cell? _ _ ce.1; simpa using this
                        have HX := Lib.hid he
                        clear he hrd
                        go_upto_region 8 with fail
                        obtain ⟨X, hX⟩ : ∃ X, X = W.alloc (.cells (entc e).toArray 60) := ⟨_, rfl⟩
                        obtain ⟨eb, heb⟩ : ∃ b, b = W.heap.size := ⟨_, rfl⟩
                        have H5 : Hid (Blk X b3 24 (rwc y (.slice (some ⟨g, off, none⟩) y.es.length cap3)).toArray ∧ Blk X eb 60 (entc e).toArray ∧ Step [] [] V1 X) := by
                          rw [hX, heb]
                          exact ⟨(H1.out.1.step HW.out.1 (by simp)).alloc _, Blk.new W _ _, HW.out.1.alloc _⟩
                        rw [show W.alloc (.cells #[.int .i64 e.index, .int .i64 e.term, .string ⟨e.data.toArray⟩] 60) = X from hX.symm, ← heb]
                        clear hX heb ra rl ce gl
                        have ra := H5.out.1.rw
                        have rl := H5.out.1.lt
                        have el := H5.out.2.1.lt
                        have ce : X.cell? ⟨eb, 0, none⟩ = some (.int .i64 e.index) ∧ X.cell? ⟨eb, 1, none⟩ = some (.int .i64 e.term) ∧ X.cell? ⟨eb, 2, none⟩ = some (Str e.data) := ⟨by rw [H5.out.2.1.cell]; rfl, by rw [H5.out.2.1.cell]; rfl, by rw [H5.out.2.1.cell]; rfl⟩
                        have HNO : Hid (∀ (hf : entOk (y.index + 1 + k) e = false), rightR y = false) := fun hf => by rw [HR.out]; exact esOk_no HX.out hf
                        have q1 : IntKind.i64.wrap (y.index + 1) = y.index + 1 := IntWalk.i64_in _ (by omega)
                        have q2 : IntKind.i64.wrap (y.index + 1 + (k : Int)) = y.index + 1 + (k : Int) := IntWalk.i64_in _ (by omega)
                        by_cases c1 : e.index = y.index + 1 + k
                        · have c1b : (e.index != y.index + 1 + (k : Int)) = false := by simp [c1]
                          have HC1 := Lib.hid c1
                          clear c1
                          go_wp2_with fail
                          refine (num10_any e.term _).mono ?_
                          rintro ee X9 ⟨rfl, rfl⟩
                          cases hzt : okN e.term with
                          | false =>
                            have HE := Lib.hid (HNO.out (by simp [entOk, hzt]))
                            clear hzt
                            go_wp2_with fail
                            exact bodyPost_ret (results_tmp rfl _ _ _) rfl ⟨by rw [HIK.out, ← HC.out, HE.out]; rfl, H1.out.2.2.trans H5.out.2.2⟩
                          | true =>
                            have HZT := Lib.hid hzt
                            clear hzt
                            by_cases c4 : (8192 : Int) < e.data.length
                            · have HE := Lib.hid (HNO.out (by simp [entOk]; omega))
                              have c4d : decide ((8192 : Int) < e.data.length) = true := decide_eq_true c4
                              clear c4
                              go_wp2_with fail
                              exact bodyPost_ret (results_tmp rfl _ _ _) rfl ⟨by rw [HIK.out, ← HC.out, HE.out]; rfl, H1.out.2.2.trans H5.out.2.2⟩
                            · have c4d : decide ((8192 : Int) < e.data.length) = false := decide_eq_false c4
                              have HK : Hid (∀ (j : Nat) e, j < k + 1 → y.es[j]? = some e → entOk (y.index + 1 + j) e = true) := by
                                intro j e' hj he'
                                by_cases hjk : j = k
                                · subst hjk
                                  rw [HX.out] at he'
                                  injection he' with he'
                                  subst he'
                                  have h1 := HC1.out
                                  simp only [entOk, HZT.out, Bool.and_true, Bool.and_eq_true, decide_eq_true_eq]
                                  exact ⟨h1, by omega⟩
                                · exact HW.out.2 j e' (by omega) he'
                              clear c4
                              go_wp2_with fail
                              go_roundw
                              case rel => exact ⟨k + 1, by go_num, by omega, H5.out.2.2, HK.out⟩
                              case measure => simp [intOf]; omega
                        · have c1b : (e.index != y.index + 1 + (k : Int)) = true := by simp [c1]
                          have HE := Lib.hid (HNO.out (by simp [entOk]; intro h; exact absurd h c1))
                          clear c1
                          go_wp2_with fail
                          exact bodyPost_ret (results_tmp rfl _ _ _) rfl ⟨by rw [HIK.out, ← HC.out, HE.out]; rfl, H1.out.2.2.trans H5.out.2.2⟩
                      · obtain rfl : k = y.es.length := by omega
                        have HE : Hid (rightR y = true) := by
                          show _ = _
                          rw [HR.out, esOk_iff]
                          intro i e he
                          exact HW.out.2 i e (List.getElem?_eq_some_iff.1 he).1 he
                        go_wp2_with fail
                        exact bodyPost_ret (results_tmp rfl _ _ _) rfl ⟨by rw [HIK.out, ← HC.out, HE.out]; rfl, H1.out.2.2.trans HW.out.1⟩
end Go.Proofs.Ytihklmomipidaaa
