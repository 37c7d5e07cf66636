/-
  An event's line, by the program and by the reference. Condition: Itoa's table as Go lays it.
-/
import Derived.Test.YtnklfcejdkpjfaaDoorScrA
namespace Go.Proofs.YtnklfcejdkpjfaaDoor
open Go.RowKit
set_option linter.unusedSimpArgs false
set_option linter.unusedVariables false
set_option maxRecDepth 100000

set_option maxHeartbeats 2000000 in
theorem refRight_any (x : Ev) (w : World) : Calls Tryd.prog 16 #[evV x] w fun e w' => e = .returned (.bool (rightE x)) ∧ Step [] [] w w' := by
  have H00 : Hid (Blk (w.alloc (.cells (evc x).toArray 23)) w.heap.size 23 (evc x).toArray ∧ Step [] [] w (w.alloc (.cells (evc x).toArray 23))) := Lib.hid ⟨Blk.new w _ _, (Step.refl [] w).alloc _⟩
  go_enter Tryd.func16, Tryd.ntmps16
  go_upto_region 1 with fail
  change Code.wp _ _ _ _ (w.alloc (.cells (evc x).toArray 23))
  obtain ⟨b, hb⟩ : ∃ b, b = w.heap.size := ⟨_, rfl⟩
  obtain ⟨V, hV⟩ : ∃ V, V = (w.alloc (.cells (evc x).toArray 23)) := ⟨_, rfl⟩
  rw [← hV, ← hb] at H00
  have H0 := H00
  rw [← hV]
  try rw [← hb]
  clear hV hb H00
  have fc := H0.out.1.cell
  have f0 := fc 0
  have f1 := fc 1
  have f2 := fc 2
  have f3 := fc 3
  have f4 := fc 4
  clear fc
  simp only [evc, List.getElem?_toArray, List.getElem?_cons_zero, List.getElem?_cons_succ] at f0 f1 f2 f3 f4
  have fl := H0.out.1.lt
  go_wp2_with fail
  refine (byteOne_any x.k V).mono ?_
  rintro e W0 ⟨rfl, rfl⟩
  cases q0 : okB x.k with
  | false =>
    have HV : Hid (rightE x = false) := Lib.hid (by cases hq : rightE x with | false => rfl | true => have h9 := (rightE_iff.1 hq).1; rw [q0] at h9; cases h9)
    go_wp2_with fail
    exact bodyPost_ret (results_tmp rfl _ _ _) rfl ⟨by rw [HV.out] <;> rfl, H0.out.2⟩
  | true =>
    go_wp2_with fail
    refine (byteOne_any x.a V).mono ?_
    rintro e W1 ⟨rfl, rfl⟩
    cases q1 : okB x.a with
    | false =>
      have HV : Hid (rightE x = false) := Lib.hid (by cases hq : rightE x with | false => rfl | true => have h9 := (rightE_iff.1 hq).2.1; rw [q1] at h9; cases h9)
      go_wp2_with fail
      exact bodyPost_ret (results_tmp rfl _ _ _) rfl ⟨by rw [HV.out] <;> rfl, H0.out.2⟩
    | true =>
      go_wp2_with fail
      refine (byteOne_any x.b V).mono ?_
      rintro e W2 ⟨rfl, rfl⟩
      cases q2 : okB x.b with
      | false =>
        have HV : Hid (rightE x = false) := Lib.hid (by cases hq : rightE x with | false => rfl | true => have h9 := (rightE_iff.1 hq).2.2.1; rw [q2] at h9; cases h9)
        go_wp2_with fail
        exact bodyPost_ret (results_tmp rfl _ _ _) rfl ⟨by rw [HV.out] <;> rfl, H0.out.2⟩
      | true =>
        go_wp2_with fail
        refine (byteOne_any x.c V).mono ?_
        rintro e W3 ⟨rfl, rfl⟩
        cases q3 : okB x.c with
        | false =>
          have HV : Hid (rightE x = false) := Lib.hid (by cases hq : rightE x with | false => rfl | true => have h9 := (rightE_iff.1 hq).2.2.2.1; rw [q3] at h9; cases h9)
          go_wp2_with fail
          exact bodyPost_ret (results_tmp rfl _ _ _) rfl ⟨by rw [HV.out] <;> rfl, H0.out.2⟩
        | true =>
          go_wp2_with fail
          refine (byteOne_any x.d V).mono ?_
          rintro e W4 ⟨rfl, rfl⟩
          cases q4 : okB x.d with
          | false =>
            have HV : Hid (rightE x = false) := Lib.hid (by cases hq : rightE x with | false => rfl | true => have h9 := (rightE_iff.1 hq).2.2.2.2; rw [q4] at h9; cases h9)
            go_wp2_with fail
            exact bodyPost_ret (results_tmp rfl _ _ _) rfl ⟨by rw [HV.out] <;> rfl, H0.out.2⟩
          | true =>
            have HV : Hid (rightE x = true) := Lib.hid (rightE_iff.2 ⟨q0, q1, q2, q3, q4⟩)
            go_wp2_with fail
            exact bodyPost_ret (results_tmp rfl _ _ _) rfl ⟨by rw [HV.out] <;> rfl, H0.out.2⟩
/-- A right event's numbers as naturals. -/
structure EvN (x : Ev) (kn an bn cn dn : Nat) : Prop where
  k : x.k = kn
  a : x.a = an
  b : x.b = bn
  c : x.c = cn
  d : x.d = dn
  hk : kn < 256
  ha : an < 256
  hb : bn < 256
  hc : cn < 256
  hd : dn < 256
theorem evN_of {x : Ev} (h : rightE x = true) : ∃ k a b c d, EvN x k a b c d := by
  obtain ⟨h0, h1, h2, h3, h4⟩ := rightE_iff.1 h
  have h0 := okB_iff.1 h0
  have h1 := okB_iff.1 h1
  have h2 := okB_iff.1 h2
  have h3 := okB_iff.1 h3
  have h4 := okB_iff.1 h4
  exact ⟨x.k.toNat, x.a.toNat, x.b.toNat, x.c.toNat, x.d.toNat, by omega, by omega, by omega, by omega, by omega, by omega, by omega, by omega, by omega, by omega⟩
theorem wordK_name {k : Nat} (h : k < 17) : ∃ s, namesE[k]? = some s ∧ wordK k = s := by
  obtain ⟨s, hs⟩ : ∃ s, namesE[k]? = some s := ⟨_, List.getElem?_eq_getElem (show k < namesE.length from h)⟩
  exact ⟨s, hs, by rw [wordK, hs]; rfl⟩
theorem wordK_dec {k : Nat} (h : ¬ k < 17) : wordK k = decB k := by
  rw [wordK, List.getElem?_eq_none (by show 17 ≤ k; omega)]
  rfl
def args4 (x : Ev) : List Int := [x.a, x.b, x.c, x.d]
theorem keep_zero {x : Ev} {n : Nat} (h : keepE x ≤ n + 1) (hz : (args4 x)[n]? = some 0) : keepE x ≤ n := by
  have hn : n < 4 := by have := (List.getElem?_eq_some_iff.1 hz).1; simpa [args4] using this
  unfold keepE at h ⊢
  match n, hn with
  | 0, _ => simp [args4] at hz; repeat' split at h
            all_goals simp_all
  | 1, _ => simp [args4] at hz; repeat' split at h
            all_goals simp_all
  | 2, _ => simp [args4] at hz; repeat' split at h
            all_goals simp_all
  | 3, _ => simp [args4] at hz; repeat' split at h
            all_goals simp_all
theorem keep_pos {x : Ev} {n : Nat} {v : Int} (hz : (args4 x)[n]? = some v) (hv : ¬ v = 0) : n + 1 ≤ keepE x := by
  have hn : n < 4 := by have := (List.getElem?_eq_some_iff.1 hz).1; simpa [args4] using this
  unfold keepE
  match n, hn with
  | 0, _ => simp [args4] at hz; subst hz; repeat' split
            all_goals simp_all
  | 1, _ => simp [args4] at hz; subst hz; repeat' split
            all_goals simp_all
  | 2, _ => simp [args4] at hz; subst hz; repeat' split
            all_goals simp_all
  | 3, _ => simp [args4] at hz; subst hz; repeat' split
            all_goals simp_all
theorem args_take (x : Ev) : argsE x = (args4 x).take (keepE x) := rfl
theorem tail_step (l : List Int) (i : Nat) (v : Int) (h : l[i]? = some v) : tailB (l.take (i + 1)) = tailB (l.take i) ++ (32 :: decB v.toNat) := by
  rw [List.take_add_one, h]
  simp [tailB]
theorem args4_ok {x : Ev} (h : rightE x = true) (i : Nat) (v : Int) (hv : (args4 x)[i]? = some v) : ∃ n : Nat, v = n ∧ n < 256 := by
  obtain ⟨-, h1, h2, h3, h4⟩ := rightE_iff.1 h
  have hm := List.mem_of_getElem? hv
  simp [args4] at hm
  have : okB v = true := by rcases hm with rfl | rfl | rfl | rfl <;> assumption
  have := okB_iff.1 this
  exact ⟨v.toNat, by omega, by omega⟩
theorem tail_len {x : Ev} (h : rightE x = true) (i : Nat) (hi : i ≤ 4) : (wordK x.k.toNat ++ tailB ((args4 x).take i)).length ≤ 23 := by
  have hk := okB_iff.1 (rightE_iff.1 h).1
  have h1 := (name_words x.k.toNat (by omega)).2.2
  have h2 : ∀ j, j ≤ 4 → (tailB ((args4 x).take j)).length ≤ 4 * j := by
    intro j
    induction j with
    | zero => simp [tailB]
    | succ j ih =>
      intro hj
      obtain ⟨v, hv⟩ : ∃ v, (args4 x)[j]? = some v := ⟨_, List.getElem?_eq_getElem (show j < (args4 x).length by simp [args4]; omega)⟩
      obtain ⟨n, rfl, hn⟩ := args4_ok h j v hv
      have hd := (dec_words n hn).2.2.2
      have := ih (by omega)
      rw [tail_step _ j _ hv, List.length_append, List.length_cons, Int.toNat_natCast]
      omega
  have := h2 i hi
  rw [List.length_append]
  omega
theorem evc_arg (x : Ev) (j : Nat) (n : Int) (h : (args4 x)[j]? = some n) : (evc x)[1 + j]? = some (.int .i64 n) := by
  rw [Nat.add_comm]
  exact evc_at x (j + 1) n (by simpa [Ev.ns, args4] using h)
def lenOfS (v : Value) : Nat := match v with | .slice _ n _ => n | _ => 0
set_option maxHeartbeats 8000000 in
theorem line_any (x : Ev) (w : World) (hT : STabs w) : Calls Tryd.prog 8 #[evV x] w fun e w' => e = .returned (.tuple #[Str (lineC x).1, .bool (lineC x).2]) ∧ Step [] [] w w' := by
  have HTT := Lib.hid hT
  clear hT
  have H00 : Hid (Blk (w.alloc (.cells (evc x).toArray 23)) w.heap.size 23 (evc x).toArray ∧ Step [] [] w (w.alloc (.cells (evc x).toArray 23))) := Lib.hid ⟨Blk.new w _ _, (Step.refl [] w).alloc _⟩
  go_enter Tryd.func8, Tryd.ntmps8
  go_upto_region 1 with fail
  change Code.wp _ _ _ _ (w.alloc (.cells (evc x).toArray 23))
  obtain ⟨b, hb⟩ : ∃ b, b = w.heap.size := ⟨_, rfl⟩
  obtain ⟨V, hV⟩ : ∃ V, V = (w.alloc (.cells (evc x).toArray 23)) := ⟨_, rfl⟩
  rw [← hV, ← hb] at H00
  have H0 := H00
  rw [← hV]
  try rw [← hb]
  clear hV hb H00
  have fc := H0.out.1.cell
  have f0 := fc 0
  have f1 := fc 1
  have f2 := fc 2
  have f3 := fc 3
  have f4 := fc 4
  clear fc
  simp only [evc, List.getElem?_toArray, List.getElem?_cons_zero, List.getElem?_cons_succ] at f0 f1 f2 f3 f4
  have fl := H0.out.1.lt
  go_wp2_with fail
  refine (right_any x V).mono ?_
  rintro e w1 ⟨rfl, k1⟩
  have H1 : Hid (Blk w1 b 23 (evc x).toArray ∧ Step [] [] w w1 ∧ STabs w1) := Lib.hid ⟨H0.out.1.step k1 (by simp), H0.out.2.trans k1, HTT.out.step (H0.out.2.trans k1)⟩
  clear k1 H0 f0 f1 f2 f3 f4 fl
  cases hr : rightE x with
  | false =>
    have HV : Hid (lineC x = ([], false)) := Lib.hid (lineC_no (by rw [hr]; simp))
    go_wp2_with fail
    exact bodyPost_ret (results_tmp2 rfl _ _ _) rfl ⟨by rw [HV.out] <;> rfl, H1.out.2.1⟩
  | true =>
    have HV : Hid (lineC x = (lineE x, true)) := Lib.hid (lineC_yes hr)
    obtain ⟨kn, an, bn, cn, dn, hN⟩ := evN_of hr
    have HRT := Lib.hid hr
    have HN := Lib.hid hN
    clear hr hN
    go_wp2_with fail
    refine (names_any w1).mono ?_
    rintro e w2 ⟨rfl, hw2⟩
    obtain ⟨nb, hnb⟩ : ∃ b, b = w1.heap.size := ⟨_, rfl⟩
    rw [← hnb]
    have k2 : Step [] [] w1 w2 := by rw [hw2]; exact (Step.refl [] w1).alloc _
    have H2 : Hid ((Blk w2 b 23 (evc x).toArray ∧ Step [] [] w w2 ∧ STabs w2) ∧ Blk w2 nb 9 (namesE.map Str).toArray) := Lib.hid ⟨⟨H1.out.1.step k2 (by simp), H1.out.2.1.trans k2, H1.out.2.2.step k2⟩, by rw [hw2, hnb]; exact Blk.new w1 _ _⟩
    clear k2 hw2 hnb H1
    have fc := H2.out.1.1.cell
    have f0 := fc 0
    clear fc
    simp only [evc, List.getElem?_toArray, List.getElem?_cons_zero, List.getElem?_cons_succ] at f0
    have fl := H2.out.1.1.lt
    rw [HN.out.k] at f0
    go_wp2_with fail
    refine (itoa_any kn HN.out.hk w2 H2.out.1.2.2).mono ?_
    rintro e w3 ⟨rfl, k3⟩
    have H3 : Hid ((Blk w3 b 23 (evc x).toArray ∧ Step [] [] w w3 ∧ STabs w3) ∧ Blk w3 nb 9 (namesE.map Str).toArray) := Lib.hid ⟨⟨H2.out.1.1.step k3 (by simp), H2.out.1.2.1.trans k3, H2.out.1.2.2.step k3⟩, H2.out.2.step k3 (by simp)⟩
    clear k3 H2 f0 fl
    have fc := H3.out.1.1.cell
    have f0 := fc 0
    clear fc
    simp only [evc, List.getElem?_toArray, List.getElem?_cons_zero, List.getElem?_cons_succ] at f0
    have fl := H3.out.1.1.lt
    rw [HN.out.k] at f0
    go_upto_if 20 with fail
    go_cut [5] (fun v wx => v = Str (wordK kn) ∧ Hid (wx = w3))
    case first =>
      by_cases hk : kn < 17
      · have hkd : decide (kn < 17) = true := decide_eq_true hk
        have hki : (kn : Int) < 17 := by omega
        obtain ⟨nm, hnm, hwk⟩ := wordK_name hk
        have zc : w3.cell? ⟨nb, kn, none⟩ = some (Str nm) := by rw [H3.out.2.cell, List.getElem?_toArray, List.getElem?_map, hnm]; rfl
        have zl := H3.out.2.lt
        have HWK := Lib.hid hwk
        clear hk hnm hwk
        go_wp2_with fail
        go_meet
        exact ⟨by rw [HWK.out], Lib.hid rfl⟩
      · have hkd : decide (kn < 17) = false := decide_eq_false hk
        have hkI : decide ((kn : Int) < 17) = false := decide_eq_false (by omega)
        have hkJ : ¬ (kn : Int) < 17 := by omega
        have HWK := Lib.hid (wordK_dec hk)
        clear hk
        go_wp2_with fail
        go_meet
        exact ⟨by rw [HWK.out], Lib.hid rfl⟩
    case rest =>
      rename World => W0
      obtain ⟨rfl, HQ⟩ := hcut
      have hw0 := HQ.out
      subst hw0
      clear HQ f0 fl
      have fc := H3.out.1.1.cell
      have f0 := fc 0
      have f1 := fc 1
      have f2 := fc 2
      have f3 := fc 3
      have f4 := fc 4
      clear fc
      simp only [evc, List.getElem?_toArray, List.getElem?_cons_zero, List.getElem?_cons_succ] at f0 f1 f2 f3 f4
      have fl := H3.out.1.1.lt
      go_wp2_with fail
      refine (numbers_any x W0).mono ?_
      rintro e w4 ⟨g, rfl, hrw, k4⟩
      have k4d : Step [] [] W0 w4 := k4.drop (by simp)
      have H4 : Hid (Row w4 1 (some ⟨g, 0, none⟩) 5 5 (evc x) ∧ Step [] [] w w4 ∧ STabs w4) := Lib.hid ⟨hrw, H3.out.1.2.1.trans k4d, H3.out.1.2.2.step k4d⟩
      clear hrw k4 k4d H3 f0 f1 f2 f3 f4 fl
      go_upto_block 0 with fail
      go_cut [6] (fun v wx => v = .slice (some ⟨g, 1, none⟩) (keepE x) 4 ∧ Hid (wx = w4))
      case first =>
        go_wp2_with fail
        go_loopw [6] (fun v W => ∃ n : Nat, n ≤ 4 ∧ v = .slice (some ⟨g, 1, none⟩) n 4 ∧ Hid (W = w4 ∧ keepE x ≤ n)) (fun v _ => lenOfS v)
        case atStart => exact ⟨4, by omega, rfl, Lib.hid ⟨rfl, keep_le x⟩⟩
        case round =>
          rename World => W
          obtain ⟨n, hn, rfl, HW⟩ := hrel
          obtain ⟨rfl, hkp⟩ := HW.out
          have HK := Lib.hid hkp
          clear HW hkp
          by_cases h0 : n = 0
          · subst h0
            have hk0 : Hid (keepE x = 0) := Lib.hid (by have := HK.out; omega)
            go_wp2_with fail
            go_meet
            exact ⟨by rw [hk0.out], Lib.hid rfl⟩
          · have h0d : decide (0 < n) = true := decide_eq_true (by omega)
            obtain ⟨j, rfl⟩ : ∃ j, n = j + 1 := ⟨n - 1, by omega⟩
            obtain ⟨v, hv⟩ : ∃ v, (args4 x)[j]? = some v := ⟨_, List.getElem?_eq_getElem (show j < (args4 x).length by simp [args4]; omega)⟩
            have zq := H4.out.1.cell rfl (1 + j) (by omega)
            have zc := zq.1.trans (evc_arg x j v hv)
            have zl := H4.out.1.lt g (by simp [blks])
            rw [Nat.zero_add] at zc
            have HV2 := Lib.hid hv
            clear zq hv h0
            by_cases hz : v = 0
            · subst hz
              have HKJ : Hid (keepE x ≤ j) := Lib.hid (keep_zero HK.out HV2.out)
              go_wp2_with fail
              go_roundw
              case rel => exact ⟨j, by omega, by go_num, Lib.hid ⟨by first | rfl | trivial, HKJ.out⟩⟩
              case measure => simp [lenOfS]
            · have hzb : (v == 0) = false := by simpa using hz
              have hkj : Hid (keepE x = j + 1) := Lib.hid (by have := keep_pos HV2.out hz; have := HK.out; omega)
              clear hz
              go_wp2_with fail
              go_meet
              exact ⟨by rw [hkj.out], Lib.hid rfl⟩
      case rest =>
        rename World => W1
        obtain ⟨rfl, HQ⟩ := hcut
        have hw1 := HQ.out
        subst hw1
        clear HQ
        have hkl := keep_le x
        obtain ⟨K, hK⟩ : ∃ K, K = keepE x := ⟨_, rfl⟩
        rw [← hK] at hkl ⊢
        have HKK := Lib.hid hK
        clear hK
        have hw0 : Str (wordK kn) = Str (wordK kn ++ tailB ((args4 x).take 0)) := by simp [tailB]
        rw [hw0]
        clear hw0
        go_wp2_with fail
        go_loopw [5, 48] (fun us v W => ∃ (i : Nat), i ≤ K ∧ us = Str (wordK kn ++ tailB ((args4 x).take i)) ∧ v = .int .i64 i ∧ Hid (Row W 1 (some ⟨g, 0, none⟩) 5 5 (evc x) ∧ Step [] [] w W ∧ STabs W)) (fun _ v _ => K - (intOf v).toNat)
        case atStart => exact ⟨0, by omega, rfl, rfl, H4⟩
        case round =>
          clear H4
          rename World => W
          obtain ⟨i, hi, rfl, rfl, HW⟩ := hrel
          by_cases hlt : i < K
          · have hlt' : (i : Int) < K := by omega
            obtain ⟨v, hv⟩ : ∃ v, (args4 x)[i]? = some v := ⟨_, List.getElem?_eq_getElem (show i < (args4 x).length by simp [args4]; omega)⟩
            obtain ⟨vn, hvn, hv6⟩ := args4_ok HRT.out i v hv
            subst hvn
            have zq := HW.out.1.cell rfl (1 + i) (by omega)
            have zc := zq.1.trans (evc_arg x i vn hv)
            have zl := HW.out.1.lt g (by simp [blks])
            rw [Nat.zero_add] at zc
            have HV2 := Lib.hid hv
            have hsl : (wordK kn ++ tailB ((args4 x).take i)).length ≤ 23 := by have := tail_len HRT.out i (by omega); rwa [HN.out.k, Int.toNat_natCast] at this
            have hdl : (decB vn).length ≤ 3 := (dec_words vn hv6).2.2.2
            obtain ⟨sw, hsw⟩ : ∃ s, s = wordK kn ++ tailB ((args4 x).take i) := ⟨_, rfl⟩
            rw [← hsw] at hsl ⊢
            have HSW := Lib.hid hsw
            clear zq hv hsw
            go_wp2_with fail
            refine (itoa_any vn hv6 W HW.out.2.2).mono ?_
            rintro e w9 ⟨rfl, k9⟩
            have HNX : Hid (Row w9 1 (some ⟨g, 0, none⟩) 5 5 (evc x) ∧ Step [] [] w w9 ∧ STabs w9) := Lib.hid ⟨HW.out.1.step k9 (by simp), HW.out.2.1.trans k9, HW.out.2.2.step k9⟩
            have HST : Hid (sw ++ 32 :: decB vn = wordK kn ++ tailB ((args4 x).take (i + 1))) := Lib.hid (by rw [HSW.out, tail_step _ i _ HV2.out, List.append_assoc, Int.toNat_natCast])
            clear k9 HW zc zl
            go_wp2_with fail
            go_roundw
            case rel => exact ⟨i + 1, by omega, by rw [← HST.out] <;> simp, by go_num, HNX⟩
            case measure => simp [intOf]; omega
          · obtain rfl : i = K := by omega
            have hnl : ¬ (i : Int) < i := by omega
            have HLE : Hid (wordK kn ++ tailB ((args4 x).take i) = lineE x) := Lib.hid (by rw [lineE, args_take, ← HKK.out, HN.out.k, Int.toNat_natCast])
            rw [HLE.out]
            go_wp2_with fail
            exact bodyPost_ret (results_tmp2 rfl _ _ _) rfl ⟨by rw [HV.out] <;> rfl, HW.out.2.1⟩
theorem keep_one {x : Ev} {kn an bn cn dn : Nat} (h : EvN x kn an bn cn dn) : (1 ≤ keepE x ↔ 0 < an ∨ 0 < bn ∨ 0 < cn ∨ 0 < dn) ∧ (2 ≤ keepE x ↔ 0 < bn ∨ 0 < cn ∨ 0 < dn) ∧ (3 ≤ keepE x ↔ 0 < cn ∨ 0 < dn) ∧ (4 ≤ keepE x ↔ 0 < dn) := by
  have h1 := h.a
  have h2 := h.b
  have h3 := h.c
  have h4 := h.d
  unfold keepE
  repeat' split
  all_goals omega
theorem take_min {x : Ev} {j : Nat} (hj : j < 4) (v : Nat) (hv : (args4 x)[j]? = some (v : Int)) : tailB ((args4 x).take (min (j + 1) (keepE x))) = if j + 1 ≤ keepE x then tailB ((args4 x).take (min j (keepE x))) ++ 32 :: decB v else tailB ((args4 x).take (min j (keepE x))) := by
  split
  · rw [Nat.min_eq_left (by assumption), Nat.min_eq_left (by omega), tail_step _ j _ hv, Int.toNat_natCast]
  · rw [Nat.min_eq_right (by omega), Nat.min_eq_right (by omega)]
set_option maxHeartbeats 16000000 in
theorem refLine_any (x : Ev) (w : World) : Calls Tryd.prog 9 #[evV x] w fun e w' => e = .returned (.tuple #[Str (lineC x).1, .bool (lineC x).2]) ∧ Step [] [] w w' := by
  have H00 : Hid (Blk (w.alloc (.cells (evc x).toArray 23)) w.heap.size 23 (evc x).toArray ∧ Step [] [] w (w.alloc (.cells (evc x).toArray 23))) := Lib.hid ⟨Blk.new w _ _, (Step.refl [] w).alloc _⟩
  go_enter Tryd.func9, Tryd.ntmps9
  go_upto_region 1 with fail
  change Code.wp _ _ _ _ (w.alloc (.cells (evc x).toArray 23))
  obtain ⟨b, hb⟩ : ∃ b, b = w.heap.size := ⟨_, rfl⟩
  obtain ⟨V, hV⟩ : ∃ V, V = (w.alloc (.cells (evc x).toArray 23)) := ⟨_, rfl⟩
  rw [← hV, ← hb] at H00
  have H0 := H00
  rw [← hV]
  try rw [← hb]
  clear hV hb H00
  have fc := H0.out.1.cell
  have f0 := fc 0
  have f1 := fc 1
  have f2 := fc 2
  have f3 := fc 3
  have f4 := fc 4
  clear fc
  simp only [evc, List.getElem?_toArray, List.getElem?_cons_zero, List.getElem?_cons_succ] at f0 f1 f2 f3 f4
  have fl := H0.out.1.lt
  go_wp2_with fail
  refine (refRight_any x V).mono ?_
  rintro e w1 ⟨rfl, k1⟩
  have H1 : Hid (Blk w1 b 23 (evc x).toArray ∧ Step [] [] w w1) := Lib.hid ⟨H0.out.1.step k1 (by simp), H0.out.2.trans k1⟩
  clear k1 H0 f0 f1 f2 f3 f4 fl
  cases hr : rightE x with
  | false =>
    have HV : Hid (lineC x = ([], false)) := Lib.hid (lineC_no (by rw [hr]; simp))
    go_wp2_with fail
    exact bodyPost_ret (results_tmp2 rfl _ _ _) rfl ⟨by rw [HV.out] <;> rfl, H1.out.2⟩
  | true =>
    have HV : Hid (lineC x = (lineE x, true)) := Lib.hid (lineC_yes hr)
    obtain ⟨kn, an, bn, cn, dn, hN⟩ := evN_of hr
    have HRT := Lib.hid hr
    have HN := Lib.hid hN
    clear hr hN
    have fc := H1.out.1.cell
    have f0 := fc 0
    clear fc
    simp only [evc, List.getElem?_toArray, List.getElem?_cons_zero, List.getElem?_cons_succ] at f0
    have fl := H1.out.1.lt
    rw [HN.out.k] at f0
    go_wp2_with fail
    refine (decimal_any kn HN.out.hk w1).mono ?_
    rintro e w2 ⟨rfl, k2⟩
    have H2 : Hid (Blk w2 b 23 (evc x).toArray ∧ Step [] [] w w2) := Lib.hid ⟨H1.out.1.step k2 (by simp), H1.out.2.trans k2⟩
    clear k2 H1 f0 fl
    have fc := H2.out.1.cell
    have f0 := fc 0
    clear fc
    simp only [evc, List.getElem?_toArray, List.getElem?_cons_zero, List.getElem?_cons_succ] at f0
    have fl := H2.out.1.lt
    rw [HN.out.k] at f0
    go_upto_if 13 with fail
    go_cut [4] (fun v wx => v = Str (wordK kn) ∧ Hid (Blk wx b 23 (evc x).toArray ∧ Step [] [] w wx))
    case first =>
      by_cases hk : kn < 17
      · have hkd : decide (kn < 17) = true := decide_eq_true hk
        have hki : (kn : Int) < 17 := by omega
        have hkm : decide ((kn : Int) ≤ 16) = true := decide_eq_true (by omega)
        have hkn : decide (kn ≤ 16) = true := decide_eq_true (by omega)
        obtain ⟨nm, hnm, hwk⟩ := wordK_name hk
        have HWK := Lib.hid hwk
        have HNM := Lib.hid hnm
        clear hk hnm hwk
        go_upto_region 5 with fail
        clear hkm hkn hkd f0 fl
        have H5 : Hid (Blk w2.drew b 23 (evc x).toArray ∧ Step [] [] w w2.drew) := Lib.hid ⟨H2.out.1.drew, H2.out.2.drew⟩
        refine wp_region_held_drew (S := fun W => Hid (Blk W b 23 (evc x).toArray)) (by kernel_rfl) (Lib.hid H5.out.1) (fun hHeld => ?_)
        refine wpAnyH_take (i := 1) (v := ?_) rfl (by kernel_rfl) (by kernel_rfl) (by kernel_rfl) (fun _ _ _ h => h) (Or.inl ⟨by rfl, ?_⟩) hHeld ?_
        rotate_left
        · intro w hSw
          have hSw1 := hSw
          clear hSw
          try dsimp only at hSw1
          go_simp
          try (with_reducible rfl)
        try simp only [Act.put, List.setIfInBounds_toArray, List.set_cons_zero, List.set_cons_succ, List.getElem_toArray, List.getElem_cons_zero, List.getElem_cons_succ]
        refine wpAnyH_take (i := 2) (v := ?_) rfl (by kernel_rfl) (by kernel_rfl) (by kernel_rfl) (fun _ _ _ h => h) (Or.inl ⟨by rfl, ?_⟩) hHeld ?_
        rotate_left
        · intro w hSw
          have hSw1 := hSw
          clear hSw
          have t0 := hSw1.out.cell 0
          simp only [evc, List.getElem?_toArray, List.getElem?_cons_zero] at t0
          have tl := hSw1.out.lt
          rw [HN.out.k] at t0
          go_simp
          try (with_reducible rfl)
        try simp only [Act.put, List.setIfInBounds_toArray, List.set_cons_zero, List.set_cons_succ, List.getElem_toArray, List.getElem_cons_zero, List.getElem_cons_succ]
        refine wpAnyH_ready (rs := [0]) (by kernel_rfl) (by simp) ?_
        refine AllReadyH.cons rfl (fun K hK => ?_) AllReadyH.nil
        go_simp
        refine (rnames_any w2.drew).mono ?_; rintro e w5 ⟨rfl, hw5⟩; have k5 : Step [] [] w2.drew w5 := (by rw [hw5]; exact (Step.refl [] _).alloc _); have b5 : Blk w5 w2.heap.size 9 (namesE.map Str).toArray := (by rw [hw5]; exact Blk.new w2.drew _ _); have HB := Lib.hid (And.intro k5 b5); clear k5 b5 hw5
        go_wp2_with fail
        refine hK.out _ _ (Lib.hid (H5.out.1.step HB.out.1 (by simp))) (fun hHeld2 => ?_)
        clear hK K hHeld
        try simp only [Act.put, List.setIfInBounds_toArray, List.set_cons_zero, List.set_cons_succ, List.getElem_toArray, List.getElem_cons_zero, List.getElem_cons_succ]
        refine wpAnyH_take (i := 3) (v := ?_) rfl (by kernel_rfl) (by kernel_rfl) (by kernel_rfl) (fun _ _ _ h => h) (Or.inl ⟨by rfl, ?_⟩) hHeld2 ?_
        rotate_left
        · intro w hSw
          have hSw1 := hSw
          clear hSw
          try dsimp only at hSw1
          go_simp
          try (with_reducible rfl)
        try simp only [Act.put, List.setIfInBounds_toArray, List.set_cons_zero, List.set_cons_succ, List.getElem_toArray, List.getElem_cons_zero, List.getElem_cons_succ]
        refine wpAnyH_ready (rs := [4]) (by kernel_rfl) (by simp) ?_
        refine AllReadyH.cons rfl (fun K hK => ?_) AllReadyH.nil
        have zc : w5.cell? ⟨w2.heap.size, kn, none⟩ = some (Str nm) := (by rw [HB.out.2.cell, List.getElem?_toArray, List.getElem?_map, HNM.out]; rfl); have zl := HB.out.2.lt; go_simp; go_wp2_with fail; clear zc zl
        refine hK.out _ _ (hHeld2) (fun hHeld3 => ?_)
        clear hK K hHeld2
        try simp only [Act.put, List.setIfInBounds_toArray, List.set_cons_zero, List.set_cons_succ, List.getElem_toArray, List.getElem_cons_zero, List.getElem_cons_succ]
        refine wpAnyH_take (i := 5) (v := ?_) rfl (by kernel_rfl) (by kernel_rfl) (by kernel_rfl) (fun _ _ _ h => h) (Or.inl ⟨by rfl, ?_⟩) hHeld3 ?_
        rotate_left
        · intro w hSw
          have hSw1 := hSw
          clear hSw
          try dsimp only at hSw1
          go_simp
          try (with_reducible rfl)
        try simp only [Act.put, List.setIfInBounds_toArray, List.set_cons_zero, List.set_cons_succ, List.getElem_toArray, List.getElem_cons_zero, List.getElem_cons_succ]
        refine wpAnyH_done (by kernel_rfl) ?_ _
        go_wp2_with fail
        go_meet
        exact ⟨by rw [HWK.out], Lib.hid ⟨H5.out.1.step HB.out.1 (by simp), H5.out.2.trans HB.out.1⟩⟩
      · have hkm : decide ((kn : Int) ≤ 16) = false := decide_eq_false (by omega)
        have hkn : decide (kn ≤ 16) = false := decide_eq_false (by omega)
        have hko : ¬ (kn : Int) ≤ 16 := by omega
        have HWK := Lib.hid (wordK_dec hk)
        clear hk
        go_wp2_with fail
        go_meet
        exact ⟨by rw [HWK.out], H2⟩
    case rest =>
      rename World => W0
      obtain ⟨rfl, H3⟩ := hcut
      clear H2 f0 fl
      have HKO := Lib.hid (keep_one HN.out)
      have hw0 : Str (wordK kn) = Str (wordK kn ++ tailB ((args4 x).take (min 0 (keepE x)))) := by simp [tailB]
      rw [hw0]
      clear hw0
      have hsl : (wordK kn ++ tailB ((args4 x).take (min 0 (keepE x)))).length ≤ 23 := by have := tail_len HRT.out (min 0 (keepE x)) (by omega); rwa [HN.out.k, Int.toNat_natCast] at this
      obtain ⟨sw, hsw⟩ : ∃ s, s = (wordK kn ++ tailB ((args4 x).take (min 0 (keepE x)))) := ⟨_, rfl⟩
      rw [← hsw] at hsl ⊢
      have HSW := Lib.hid hsw
      clear hsw
      go_upto_region 6 with fail
      go_cut [36] (fun v wx => v = .bool (decide (1 ≤ keepE x)) ∧ Hid (wx = W0))
      case first =>
        have fc := H3.out.1.cell
        have f1 := fc 1
        have f2 := fc 2
        have f3 := fc 3
        have f4 := fc 4
        clear fc
        simp only [evc, List.getElem?_toArray, List.getElem?_cons_zero, List.getElem?_cons_succ] at f1 f2 f3 f4
        have fl := H3.out.1.lt
        rw [HN.out.a] at f1
        rw [HN.out.b] at f2
        rw [HN.out.c] at f3
        rw [HN.out.d] at f4
        by_cases g0 : 0 < an
        · have g0d : decide (0 < an) = true := decide_eq_true g0
          have HD : Hid (decide (1 ≤ keepE x) = true) := Lib.hid (decide_eq_true (HKO.out.1.2 (by omega)))
          clear g0
          go_wp2_with fail
          go_meet
          exact ⟨by rw [HD.out], Lib.hid rfl⟩
        · have g0d : decide (0 < an) = false := decide_eq_false g0
          by_cases g1 : 0 < bn
          · have g1d : decide (0 < bn) = true := decide_eq_true g1
            have HD : Hid (decide (1 ≤ keepE x) = true) := Lib.hid (decide_eq_true (HKO.out.1.2 (by omega)))
            clear g0 g1
            go_wp2_with fail
            go_meet
            exact ⟨by rw [HD.out], Lib.hid rfl⟩
          · have g1d : decide (0 < bn) = false := decide_eq_false g1
            by_cases g2 : 0 < cn
            · have g2d : decide (0 < cn) = true := decide_eq_true g2
              have HD : Hid (decide (1 ≤ keepE x) = true) := Lib.hid (decide_eq_true (HKO.out.1.2 (by omega)))
              clear g0 g1 g2
              go_wp2_with fail
              go_meet
              exact ⟨by rw [HD.out], Lib.hid rfl⟩
            · have g2d : decide (0 < cn) = false := decide_eq_false g2
              by_cases g3 : 0 < dn
              · have g3d : decide (0 < dn) = true := decide_eq_true g3
                have HD : Hid (decide (1 ≤ keepE x) = true) := Lib.hid (decide_eq_true (HKO.out.1.2 (by omega)))
                clear g0 g1 g2 g3
                go_wp2_with fail
                go_meet
                exact ⟨by rw [HD.out], Lib.hid rfl⟩
              · have g3d : decide (0 < dn) = false := decide_eq_false g3
                have HD : Hid (decide (1 ≤ keepE x) = false) := Lib.hid (decide_eq_false (fun h => by have := HKO.out.1.1 h; omega))
                clear g0 g1 g2 g3
                go_wp2_with fail
                go_meet
                exact ⟨by rw [HD.out], Lib.hid rfl⟩
      case rest =>
        rename World => Xq
        obtain ⟨rfl, HQ⟩ := hcut
        have hxq := HQ.out
        subst hxq
        clear HQ
        go_upto_if 36 with fail
        go_cut [4] (fun v wx => v = Str (wordK kn ++ tailB ((args4 x).take (min 1 (keepE x)))) ∧ Hid (Blk wx b 23 (evc x).toArray ∧ Step [] [] w wx))
        case first =>
          have HTM := Lib.hid (take_min (x := x) (j := 0) (by omega) an (by simp only [args4, List.getElem?_cons_zero, List.getElem?_cons_succ]; rw [HN.out.a]))
          by_cases hj : 1 ≤ keepE x
          · have hjd : decide (1 ≤ keepE x) = true := decide_eq_true hj
            have HE : Hid (sw ++ 32 :: decB an = (wordK kn ++ tailB ((args4 x).take (min 1 (keepE x))))) := Lib.hid (by rw [HTM.out, if_pos hj, HSW.out, List.append_assoc])
            clear hj
            rw [hjd]
            have hdl : (decB an).length ≤ 3 := (dec_words an HN.out.ha).2.2.2
            have fc := H3.out.1.cell
            have f1 := fc 1
            clear fc
            simp only [evc, List.getElem?_toArray, List.getElem?_cons_zero, List.getElem?_cons_succ] at f1
            have fl := H3.out.1.lt
            rw [HN.out.a] at f1
            go_wp2_with fail
            refine (decimal_any an HN.out.ha Xq).mono ?_
            rintro e w9 ⟨rfl, k9⟩
            have H9 : Hid (Blk w9 b 23 (evc x).toArray ∧ Step [] [] w w9) := Lib.hid ⟨H3.out.1.step k9 (by simp), H3.out.2.trans k9⟩
            clear k9
            go_wp2_with fail
            go_meet
            exact ⟨by rw [← HE.out] <;> simp, H9⟩
          · have hjd : decide (1 ≤ keepE x) = false := decide_eq_false hj
            have HE : Hid (sw = (wordK kn ++ tailB ((args4 x).take (min 1 (keepE x))))) := Lib.hid (by rw [HTM.out, if_neg hj, HSW.out])
            clear hj
            rw [hjd]
            go_wp2_with fail
            go_meet
            exact ⟨by rw [← HE.out], H3⟩
        case rest =>
          rename World => W1
          obtain ⟨rfl, H4⟩ := hcut
          clear H3 HSW hsl
          have hsl : (wordK kn ++ tailB ((args4 x).take (min 1 (keepE x)))).length ≤ 23 := by have := tail_len HRT.out (min 1 (keepE x)) (by omega); rwa [HN.out.k, Int.toNat_natCast] at this
          obtain ⟨sw, hsw⟩ : ∃ s, s = (wordK kn ++ tailB ((args4 x).take (min 1 (keepE x)))) := ⟨_, rfl⟩
          rw [← hsw] at hsl ⊢
          have HSW := Lib.hid hsw
          clear hsw
          go_upto_region 8 with fail
          go_cut [55] (fun v wx => v = .bool (decide (2 ≤ keepE x)) ∧ Hid (wx = W1))
          case first =>
            have fc := H4.out.1.cell
            have f1 := fc 1
            have f2 := fc 2
            have f3 := fc 3
            have f4 := fc 4
            clear fc
            simp only [evc, List.getElem?_toArray, List.getElem?_cons_zero, List.getElem?_cons_succ] at f1 f2 f3 f4
            have fl := H4.out.1.lt
            rw [HN.out.a] at f1
            rw [HN.out.b] at f2
            rw [HN.out.c] at f3
            rw [HN.out.d] at f4
            by_cases g1 : 0 < bn
            · have g1d : decide (0 < bn) = true := decide_eq_true g1
              have HD : Hid (decide (2 ≤ keepE x) = true) := Lib.hid (decide_eq_true (HKO.out.2.1.2 (by omega)))
              clear g1
              go_wp2_with fail
              go_meet
              exact ⟨by rw [HD.out], Lib.hid rfl⟩
            · have g1d : decide (0 < bn) = false := decide_eq_false g1
              by_cases g2 : 0 < cn
              · have g2d : decide (0 < cn) = true := decide_eq_true g2
                have HD : Hid (decide (2 ≤ keepE x) = true) := Lib.hid (decide_eq_true (HKO.out.2.1.2 (by omega)))
                clear g1 g2
                go_wp2_with fail
                go_meet
                exact ⟨by rw [HD.out], Lib.hid rfl⟩
              · have g2d : decide (0 < cn) = false := decide_eq_false g2
                by_cases g3 : 0 < dn
                · have g3d : decide (0 < dn) = true := decide_eq_true g3
                  have HD : Hid (decide (2 ≤ keepE x) = true) := Lib.hid (decide_eq_true (HKO.out.2.1.2 (by omega)))
                  clear g1 g2 g3
                  go_wp2_with fail
                  go_meet
                  exact ⟨by rw [HD.out], Lib.hid rfl⟩
                · have g3d : decide (0 < dn) = false := decide_eq_false g3
                  have HD : Hid (decide (2 ≤ keepE x) = false) := Lib.hid (decide_eq_false (fun h => by have := HKO.out.2.1.1 h; omega))
                  clear g1 g2 g3
                  go_wp2_with fail
                  go_meet
                  exact ⟨by rw [HD.out], Lib.hid rfl⟩
          case rest =>
            rename World => Xq
            obtain ⟨rfl, HQ⟩ := hcut
            have hxq := HQ.out
            subst hxq
            clear HQ
            go_upto_if 55 with fail
            go_cut [4] (fun v wx => v = Str (wordK kn ++ tailB ((args4 x).take (min 2 (keepE x)))) ∧ Hid (Blk wx b 23 (evc x).toArray ∧ Step [] [] w wx))
            case first =>
              have HTM := Lib.hid (take_min (x := x) (j := 1) (by omega) bn (by simp only [args4, List.getElem?_cons_zero, List.getElem?_cons_succ]; rw [HN.out.b]))
              by_cases hj : 2 ≤ keepE x
              · have hjd : decide (2 ≤ keepE x) = true := decide_eq_true hj
                have HE : Hid (sw ++ 32 :: decB bn = (wordK kn ++ tailB ((args4 x).take (min 2 (keepE x))))) := Lib.hid (by rw [HTM.out, if_pos hj, HSW.out, List.append_assoc])
                clear hj
                rw [hjd]
                have hdl : (decB bn).length ≤ 3 := (dec_words bn HN.out.hb).2.2.2
                have fc := H4.out.1.cell
                have f2 := fc 2
                clear fc
                simp only [evc, List.getElem?_toArray, List.getElem?_cons_zero, List.getElem?_cons_succ] at f2
                have fl := H4.out.1.lt
                rw [HN.out.b] at f2
                go_wp2_with fail
                refine (decimal_any bn HN.out.hb Xq).mono ?_
                rintro e w9 ⟨rfl, k9⟩
                have H9 : Hid (Blk w9 b 23 (evc x).toArray ∧ Step [] [] w w9) := Lib.hid ⟨H4.out.1.step k9 (by simp), H4.out.2.trans k9⟩
                clear k9
                go_wp2_with fail
                go_meet
                exact ⟨by rw [← HE.out] <;> simp, H9⟩
              · have hjd : decide (2 ≤ keepE x) = false := decide_eq_false hj
                have HE : Hid (sw = (wordK kn ++ tailB ((args4 x).take (min 2 (keepE x))))) := Lib.hid (by rw [HTM.out, if_neg hj, HSW.out])
                clear hj
                rw [hjd]
                go_wp2_with fail
                go_meet
                exact ⟨by rw [← HE.out], H4⟩
            case rest =>
              rename World => W2
              obtain ⟨rfl, H5⟩ := hcut
              clear H4 HSW hsl
              have hsl : (wordK kn ++ tailB ((args4 x).take (min 2 (keepE x)))).length ≤ 23 := by have := tail_len HRT.out (min 2 (keepE x)) (by omega); rwa [HN.out.k, Int.toNat_natCast] at this
              obtain ⟨sw, hsw⟩ : ∃ s, s = (wordK kn ++ tailB ((args4 x).take (min 2 (keepE x)))) := ⟨_, rfl⟩
              rw [← hsw] at hsl ⊢
              have HSW := Lib.hid hsw
              clear hsw
              go_upto_region 10 with fail
              go_cut [69] (fun v wx => v = .bool (decide (3 ≤ keepE x)) ∧ Hid (wx = W2))
              case first =>
                have fc := H5.out.1.cell
                have f1 := fc 1
                have f2 := fc 2
                have f3 := fc 3
                have f4 := fc 4
                clear fc
                simp only [evc, List.getElem?_toArray, List.getElem?_cons_zero, List.getElem?_cons_succ] at f1 f2 f3 f4
                have fl := H5.out.1.lt
                rw [HN.out.a] at f1
                rw [HN.out.b] at f2
                rw [HN.out.c] at f3
                rw [HN.out.d] at f4
                by_cases g2 : 0 < cn
                · have g2d : decide (0 < cn) = true := decide_eq_true g2
                  have HD : Hid (decide (3 ≤ keepE x) = true) := Lib.hid (decide_eq_true (HKO.out.2.2.1.2 (by omega)))
                  clear g2
                  go_wp2_with fail
                  go_meet
                  exact ⟨by rw [HD.out], Lib.hid rfl⟩
                · have g2d : decide (0 < cn) = false := decide_eq_false g2
                  by_cases g3 : 0 < dn
                  · have g3d : decide (0 < dn) = true := decide_eq_true g3
                    have HD : Hid (decide (3 ≤ keepE x) = true) := Lib.hid (decide_eq_true (HKO.out.2.2.1.2 (by omega)))
                    clear g2 g3
                    go_wp2_with fail
                    go_meet
                    exact ⟨by rw [HD.out], Lib.hid rfl⟩
                  · have g3d : decide (0 < dn) = false := decide_eq_false g3
                    have HD : Hid (decide (3 ≤ keepE x) = false) := Lib.hid (decide_eq_false (fun h => by have := HKO.out.2.2.1.1 h; omega))
                    clear g2 g3
                    go_wp2_with fail
                    go_meet
                    exact ⟨by rw [HD.out], Lib.hid rfl⟩
              case rest =>
                rename World => Xq
                obtain ⟨rfl, HQ⟩ := hcut
                have hxq := HQ.out
                subst hxq
                clear HQ
                go_upto_if 69 with fail
                go_cut [4] (fun v wx => v = Str (wordK kn ++ tailB ((args4 x).take (min 3 (keepE x)))) ∧ Hid (Blk wx b 23 (evc x).toArray ∧ Step [] [] w wx))
                case first =>
                  have HTM := Lib.hid (take_min (x := x) (j := 2) (by omega) cn (by simp only [args4, List.getElem?_cons_zero, List.getElem?_cons_succ]; rw [HN.out.c]))
                  by_cases hj : 3 ≤ keepE x
                  · have hjd : decide (3 ≤ keepE x) = true := decide_eq_true hj
                    have HE : Hid (sw ++ 32 :: decB cn = (wordK kn ++ tailB ((args4 x).take (min 3 (keepE x))))) := Lib.hid (by rw [HTM.out, if_pos hj, HSW.out, List.append_assoc])
                    clear hj
                    rw [hjd]
                    have hdl : (decB cn).length ≤ 3 := (dec_words cn HN.out.hc).2.2.2
                    have fc := H5.out.1.cell
                    have f3 := fc 3
                    clear fc
                    simp only [evc, List.getElem?_toArray, List.getElem?_cons_zero, List.getElem?_cons_succ] at f3
                    have fl := H5.out.1.lt
                    rw [HN.out.c] at f3
                    go_wp2_with fail
                    refine (decimal_any cn HN.out.hc Xq).mono ?_
                    rintro e w9 ⟨rfl, k9⟩
                    have H9 : Hid (Blk w9 b 23 (evc x).toArray ∧ Step [] [] w w9) := Lib.hid ⟨H5.out.1.step k9 (by simp), H5.out.2.trans k9⟩
                    clear k9
                    go_wp2_with fail
                    go_meet
                    exact ⟨by rw [← HE.out] <;> simp, H9⟩
                  · have hjd : decide (3 ≤ keepE x) = false := decide_eq_false hj
                    have HE : Hid (sw = (wordK kn ++ tailB ((args4 x).take (min 3 (keepE x))))) := Lib.hid (by rw [HTM.out, if_neg hj, HSW.out])
                    clear hj
                    rw [hjd]
                    go_wp2_with fail
                    go_meet
                    exact ⟨by rw [← HE.out], H5⟩
                case rest =>
                  rename World => W3
                  obtain ⟨rfl, H6⟩ := hcut
                  clear H5 HSW hsl
                  have hsl : (wordK kn ++ tailB ((args4 x).take (min 3 (keepE x)))).length ≤ 23 := by have := tail_len HRT.out (min 3 (keepE x)) (by omega); rwa [HN.out.k, Int.toNat_natCast] at this
                  obtain ⟨sw, hsw⟩ : ∃ s, s = (wordK kn ++ tailB ((args4 x).take (min 3 (keepE x)))) := ⟨_, rfl⟩
                  rw [← hsw] at hsl ⊢
                  have HSW := Lib.hid hsw
                  clear hsw
                  go_upto_region 12 with fail
                  go_cut [78] (fun v wx => v = .bool (decide (4 ≤ keepE x)) ∧ Hid (wx = W3))
                  case first =>
                    have fc := H6.out.1.cell
                    have f1 := fc 1
                    have f2 := fc 2
                    have f3 := fc 3
                    have f4 := fc 4
                    clear fc
                    simp only [evc, List.getElem?_toArray, List.getElem?_cons_zero, List.getElem?_cons_succ] at f1 f2 f3 f4
                    have fl := H6.out.1.lt
                    rw [HN.out.a] at f1
                    rw [HN.out.b] at f2
                    rw [HN.out.c] at f3
                    rw [HN.out.d] at f4
                    by_cases g3 : 0 < dn
                    · have g3d : decide (0 < dn) = true := decide_eq_true g3
                      have HD : Hid (decide (4 ≤ keepE x) = true) := Lib.hid (decide_eq_true (HKO.out.2.2.2.2 (by omega)))
                      clear g3
                      go_wp2_with fail
                      go_meet
                      exact ⟨by rw [HD.out], Lib.hid rfl⟩
                    · have g3d : decide (0 < dn) = false := decide_eq_false g3
                      have HD : Hid (decide (4 ≤ keepE x) = false) := Lib.hid (decide_eq_false (fun h => by have := HKO.out.2.2.2.1 h; omega))
                      clear g3
                      go_wp2_with fail
                      go_meet
                      exact ⟨by rw [HD.out], Lib.hid rfl⟩
                  case rest =>
                    rename World => Xq
                    obtain ⟨rfl, HQ⟩ := hcut
                    have hxq := HQ.out
                    subst hxq
                    clear HQ
                    go_upto_if 78 with fail
                    go_cut [4] (fun v wx => v = Str (wordK kn ++ tailB ((args4 x).take (min 4 (keepE x)))) ∧ Hid (Blk wx b 23 (evc x).toArray ∧ Step [] [] w wx))
                    case first =>
                      have HTM := Lib.hid (take_min (x := x) (j := 3) (by omega) dn (by simp only [args4, List.getElem?_cons_zero, List.getElem?_cons_succ]; rw [HN.out.d]))
                      by_cases hj : 4 ≤ keepE x
                      · have hjd : decide (4 ≤ keepE x) = true := decide_eq_true hj
                        have HE : Hid (sw ++ 32 :: decB dn = (wordK kn ++ tailB ((args4 x).take (min 4 (keepE x))))) := Lib.hid (by rw [HTM.out, if_pos hj, HSW.out, List.append_assoc])
                        clear hj
                        rw [hjd]
                        have hdl : (decB dn).length ≤ 3 := (dec_words dn HN.out.hd).2.2.2
                        have fc := H6.out.1.cell
                        have f4 := fc 4
                        clear fc
                        simp only [evc, List.getElem?_toArray, List.getElem?_cons_zero, List.getElem?_cons_succ] at f4
                        have fl := H6.out.1.lt
                        rw [HN.out.d] at f4
                        go_wp2_with fail
                        refine (decimal_any dn HN.out.hd Xq).mono ?_
                        rintro e w9 ⟨rfl, k9⟩
                        have H9 : Hid (Blk w9 b 23 (evc x).toArray ∧ Step [] [] w w9) := Lib.hid ⟨H6.out.1.step k9 (by simp), H6.out.2.trans k9⟩
                        clear k9
                        go_wp2_with fail
                        go_meet
                        exact ⟨by rw [← HE.out] <;> simp, H9⟩
                      · have hjd : decide (4 ≤ keepE x) = false := decide_eq_false hj
                        have HE : Hid (sw = (wordK kn ++ tailB ((args4 x).take (min 4 (keepE x))))) := Lib.hid (by rw [HTM.out, if_neg hj, HSW.out])
                        clear hj
                        rw [hjd]
                        go_wp2_with fail
                        go_meet
                        exact ⟨by rw [← HE.out], H6⟩
                    case rest =>
                      rename World => W4
                      obtain ⟨rfl, H7⟩ := hcut
                      clear H6 HSW hsl
                      have HLE : Hid (wordK kn ++ tailB ((args4 x).take (min 4 (keepE x))) = lineE x) := Lib.hid (by rw [lineE, args_take, Nat.min_eq_right (keep_le x), HN.out.k, Int.toNat_natCast])
                      rw [HLE.out]
                      go_wp2_with fail
                      exact bodyPost_ret (results_tmp2 rfl _ _ _) rfl ⟨by rw [HV.out] <;> rfl, H7.out.2⟩
end Go.Proofs.YtnklfcejdkpjfaaDoor
