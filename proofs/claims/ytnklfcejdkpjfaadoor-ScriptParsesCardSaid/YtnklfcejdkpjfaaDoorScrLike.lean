/-
  What the law's likely says: where it says yes, the text is some right event's line. Condition: at most 1000 bytes.
-/
import Derived.Test.YtnklfcejdkpjfaaDoorScrWake
namespace Go.Proofs.YtnklfcejdkpjfaaDoor
open Go.RowKit Go.ChangeShapes Go.WideShapes Go.ChangeAt
set_option linter.unusedSimpArgs false
set_option linter.unusedVariables false
set_option maxRecDepth 100000

def LikP (s : List UInt8) (w : World) (e : Ending) (w' : World) : Prop := ∃ g, e = .returned (.bool g) ∧ (g = true → ∃ x : Ev, rightE x = true ∧ lineE x = s) ∧ Step [] [] w w'
theorem ev_set (x : Ev) (j : Nat) (v : Int) (hj : j < 5) : ∃ y : Ev, ((evc x).set j (.int .i64 v)) = evc y := by
  match j, hj with
  | 0, _ => exact ⟨{x with k := v}, rfl⟩
  | 1, _ => exact ⟨{x with a := v}, rfl⟩
  | 2, _ => exact ⟨{x with b := v}, rfl⟩
  | 3, _ => exact ⟨{x with c := v}, rfl⟩
  | 4, _ => exact ⟨{x with d := v}, rfl⟩
theorem evc_some (x : Ev) (j : Nat) (hj : j < 5) : ∃ v : Int, (evc x)[j]? = some (.int .i64 v) := by
  match j, hj with
  | 0, _ => exact ⟨_, rfl⟩
  | 1, _ => exact ⟨_, rfl⟩
  | 2, _ => exact ⟨_, rfl⟩
  | 3, _ => exact ⟨_, rfl⟩
  | 4, _ => exact ⟨_, rfl⟩
set_option maxHeartbeats 16000000 in
theorem likely_any (s : List UInt8) (w : World) (hs : s.length ≤ 1000) : Calls Tryd.prog 11 #[Str s] w (LikP s w) := by
  have HL := Lib.hid hs
  clear hs
  have H00 : Hid (Blk (w.alloc (.cells (evc evZ).toArray 45)) w.heap.size 45 (evc evZ).toArray ∧ Step [] [] w (w.alloc (.cells (evc evZ).toArray 45))) := Lib.hid ⟨Blk.new w _ _, (Step.refl [] w).alloc _⟩
  go_enter Tryd.func11, Tryd.ntmps11
  go_upto_region 2 with fail
  change Code.wp _ _ _ _ (w.alloc (.cells (evc evZ).toArray 45))
  obtain ⟨ab, hb⟩ : ∃ b, b = w.heap.size := ⟨_, rfl⟩
  obtain ⟨V, hV⟩ : ∃ V, V = (w.alloc (.cells (evc evZ).toArray 45)) := ⟨_, rfl⟩
  rw [← hV, ← hb] at H00
  have H0 := H00
  rw [← hV]
  try rw [← hb]
  have HAB := Lib.hid (show w.heap.size ≤ ab by omega)
  clear hV hb H00
  go_wp2_with fail
  go_loopw [4, 5, 6] (fun va us vi W => ∃ (i at_ : Nat) (wd : List UInt8) (x : Ev), i ≤ s.length + 1 ∧ at_ ≤ 5 ∧ wd.length ≤ i ∧ va = .int .i64 at_ ∧ us = Str wd ∧ vi = .int .i64 i ∧ Hid (Blk W ab 45 (evc x).toArray ∧ Step [] [] w W)) (fun _ _ vi _ => s.length + 1 - (intOf vi).toNat)
  case atStart => exact ⟨0, 0, [], evZ, by omega, by omega, by simp, rfl, rfl, rfl, H0⟩
  case round =>
    clear H0
    rename World => W
    obtain ⟨i, at_, wd, x, hi, hat, hwl, rfl, rfl, rfl, HW⟩ := hrel
    have hsL := HL.out
    by_cases hlt : i < s.length + 1
    · have hlt' : (i : Int) ≤ s.length := by omega
      by_cases hil : i < s.length
      · have hil' : (i : Int) < s.length := by omega
        by_cases hsp : s[i].toNat = 32
        · have hsd : ((s[i].toNat : Int) != 32) = false := by simp; omega
          clear hsp
          by_cases h4 : 4 < at_
          · have h4d : decide (4 < at_) = true := decide_eq_true h4
            have h4i : decide ((4 : Int) < (at_ : Int)) = true := decide_eq_true (by omega)
            go_wp2_with fail
            exact bodyPost_ret (results_tmp rfl _ _ _) rfl ⟨false, rfl, by simp, HW.out.2⟩
          · have h4d : decide (4 < at_) = false := decide_eq_false h4
            have h4i : decide ((4 : Int) < (at_ : Int)) = false := decide_eq_false (by omega)
            by_cases h7 : 7 < wd.length
            · have h7d : decide (7 < wd.length) = true := decide_eq_true h7
              have h7i : decide ((7 : Int) < (wd.length : Int)) = true := decide_eq_true (by omega)
              go_wp2_with fail
              exact bodyPost_ret (results_tmp rfl _ _ _) rfl ⟨false, rfl, by simp, HW.out.2⟩
            · have h7d : decide (7 < wd.length) = false := decide_eq_false h7
              have h7i : decide ((7 : Int) < (wd.length : Int)) = false := decide_eq_false (by omega)
              go_upto_block 2 with fail
              clear h4d h4i h7d h7i
              go_cut [7] (fun v wx => ∃ k : Int, -1 ≤ k ∧ k ≤ 16 ∧ v = .int .i64 k ∧ Hid (Blk wx ab 45 (evc x).toArray ∧ Step [] [] w wx))
              case first =>
                go_wp2_with fail
                go_loopw [7, 8] (fun vk v W => ∃ (k : Int) (n : Nat), -1 ≤ k ∧ k ≤ 16 ∧ n ≤ 17 ∧ vk = .int .i64 k ∧ v = .int .i64 n ∧ Hid (Blk W ab 45 (evc x).toArray ∧ Step [] [] w W)) (fun _ v _ => 17 - (intOf v).toNat)
                case atStart => exact ⟨-1, 0, by omega, by omega, by omega, rfl, rfl, HW⟩
                case round =>
                  clear HW
                  rename World => X
                  obtain ⟨k, n, hk1, hk2, hn, rfl, rfl, HX⟩ := hrel
                  by_cases hn6 : n ≤ 16
                  · have hnd : decide (n ≤ 16) = true := decide_eq_true hn6
                    have hni : decide ((n : Int) ≤ 16) = true := decide_eq_true (by omega)
                    by_cases ha0 : at_ = 0
                    · have had : ((at_ : Int) == 0) = true := by simp [ha0]
                      have HA0 := Lib.hid ha0
                      clear ha0
                      go_wp2_with fail
                      refine (refLine_any ⟨n, 0, 0, 0, 0⟩ X).mono ?_
                      rintro e X2 ⟨rfl, k2⟩
                      have H2 : Hid (Blk X2 ab 45 (evc x).toArray ∧ Step [] [] w X2) := Lib.hid ⟨HX.out.1.step k2 (by simp), HX.out.2.trans k2⟩
                      clear k2 HX
                      obtain ⟨⟨t, ok⟩, ht⟩ : ∃ q, q = lineC ⟨n, 0, 0, 0, 0⟩ := ⟨_, rfl⟩
                      rw [← ht]
                      clear ht
                      by_cases hq : t = wd
                      · have hqd : (t == wd) = true := by simp [hq]
                        clear hq
                        go_wp2_with fail
                        go_roundw
                        case rel => exact ⟨n, n + 1, by omega, by omega, by omega, by go_num, by go_num, H2⟩
                        case measure => simp [intOf]; omega
                      · have hqd : (t == wd) = false := by simpa using hq
                        clear hq
                        go_wp2_with fail
                        go_roundw
                        case rel => exact ⟨k, n + 1, by omega, by omega, by omega, by go_num, by go_num, H2⟩
                        case measure => simp [intOf]; omega
                    · have had : ((at_ : Int) == 0) = false := by simp; omega
                      clear ha0
                      go_wp2_with fail
                      go_meet
                      exact ⟨k, hk1, hk2, rfl, HX⟩
                  · have hnd : decide (n ≤ 16) = false := decide_eq_false hn6
                    have hni : decide ((n : Int) ≤ 16) = false := decide_eq_false (by omega)
                    go_wp2_with fail
                    go_meet
                    exact ⟨k, hk1, hk2, rfl, HX⟩
              case rest =>
                rename World => X
                obtain ⟨k, hk1, hk2, rfl, HX⟩ := hcut
                clear HW
                go_upto_if 64 with fail
                go_cut [7] (fun v wx => ∃ k : Int, 0 ≤ k ∧ k ≤ 2559 ∧ v = .int .i64 k ∧ Hid (Blk wx ab 45 (evc x).toArray ∧ Step [] [] w wx))
                case first =>
                  by_cases hk0 : k < 0
                  · have hkd : decide (k < 0) = true := decide_eq_true hk0
                    rw [hkd]
                    clear hk0 hkd
                    obtain ⟨g9, cap9, X3, hcv, hrw, hst, hg9⟩ := run_row_of_str (P := Tryd.prog) (w := X) 9 31 5 wd Tryd.underlying9 Tryd.underlying31 Tryd.underlying5 (by unfold maxLen; omega)
                    have H3 : Hid ((Blk X3 ab 45 (evc x).toArray ∧ Step [] [] w X3) ∧ Row X3 1 (some ⟨g9, 0, none⟩) wd.length cap9 (wd.map bv)) := Lib.hid ⟨⟨HX.out.1.step hst (by simp), HX.out.2.trans (hst.drop (by simp))⟩, hrw⟩
                    clear hrw hst hg9 HX
                    go_wp2_with fail
                    go_loopw [7, 68] (fun vk v W => ∃ (k : Int) (n : Nat), 0 ≤ k ∧ k ≤ 2559 ∧ n ≤ wd.length ∧ vk = .int .i64 k ∧ v = .int .i64 n ∧ Hid (W = X3)) (fun _ v _ => wd.length - (intOf v).toNat)
                    case atStart => exact ⟨0, 0, by omega, by omega, by omega, rfl, rfl, Lib.hid rfl⟩
                    case round =>
                      rename World => Y
                      obtain ⟨k, n, hk1, hk2, hn, rfl, rfl, HY⟩ := hrel
                      have hy := HY.out
                      subst hy
                      clear HY
                      by_cases hnl : n < wd.length
                      · have hnl' : (n : Int) < wd.length := by omega
                        obtain ⟨c, hc⟩ : ∃ c, wd[n]? = some c := ⟨_, List.getElem?_eq_getElem hnl⟩
                        have zq := H3.out.2.cell rfl n (by omega)
                        have zc := zq.1.trans (by rw [List.getElem?_map, hc]; rfl : (wd.map bv)[n]? = some (bv c))
                        rw [Nat.zero_add] at zc
                        have zl := H3.out.2.lt g9 (by simp [blks])
                        simp only [bv] at zc
                        obtain ⟨cn, hcn⟩ : ∃ n, n = c.toNat := ⟨_, rfl⟩
                        have hc8 : cn < 256 := by rw [hcn]; exact c.toNat_lt
                        rw [← hcn] at zc
                        clear zq hc hcn
                        by_cases t0 : cn < 48
                        · have t0d : decide ((cn : Int) < 48) = true := decide_eq_true (by omega)
                          have t0e : decide (cn < 48) = true := decide_eq_true t0
                          clear t0
                          go_wp2_with fail
                          exact bodyPost_ret (results_tmp rfl _ _ _) rfl ⟨false, rfl, by simp, H3.out.1.2⟩
                        · have t0d : decide ((cn : Int) < 48) = false := decide_eq_false (by omega)
                          have t0e : decide (cn < 48) = false := decide_eq_false t0
                          by_cases t1 : 57 < cn
                          · have t1d : decide ((57 : Int) < (cn : Int)) = true := decide_eq_true (by omega)
                            have t1e : decide (57 < cn) = true := decide_eq_true t1
                            clear t0 t1
                            go_wp2_with fail
                            exact bodyPost_ret (results_tmp rfl _ _ _) rfl ⟨false, rfl, by simp, H3.out.1.2⟩
                          · have t1d : decide ((57 : Int) < (cn : Int)) = false := decide_eq_false (by omega)
                            have t1e : decide (57 < cn) = false := decide_eq_false t1
                            by_cases t2 : 255 < k
                            · have t2d : decide (255 < k) = true := decide_eq_true t2
                              clear t0 t1 t2
                              go_wp2_with fail
                              exact bodyPost_ret (results_tmp rfl _ _ _) rfl ⟨false, rfl, by simp, H3.out.1.2⟩
                            · have t2d : decide (255 < k) = false := decide_eq_false t2
                              have hw1 : IntKind.u8.wrap ((cn : Int) - 48) = (cn : Int) - 48 := IntWalk.u8_in _ (by omega)
                              have hw2 : IntKind.i64.wrap ((cn : Int) - 48) = (cn : Int) - 48 := IntWalk.i64_in _ (by omega)
                              go_wp2_with fail
                              go_roundw
                              case rel => exact ⟨k * 10 + ((cn : Int) - 48), n + 1, by omega, by omega, by omega, by go_num, by go_num, Lib.hid (by first | rfl | trivial)⟩
                              case measure => simp [intOf]; omega
                      · obtain rfl : n = wd.length := by omega
                        have hnn : ¬ (wd.length : Int) < wd.length := by omega
                        go_wp2_with fail
                        go_meet
                        exact ⟨k, hk1, hk2, rfl, Lib.hid H3.out.1⟩
                  · have hkd : decide (k < 0) = false := decide_eq_false hk0
                    rw [hkd]
                    go_wp2_with fail
                    go_meet
                    exact ⟨k, by omega, by omega, rfl, HX⟩
                case rest =>
                  clear HX
                  rename World => X
                  obtain ⟨k, hk1, hk2, rfl, HX⟩ := hcut
                  obtain ⟨v9, hv9⟩ := evc_some x at_ (by omega)
                  have zc : X.cell? ⟨ab, at_, none⟩ = some (.int .i64 v9) := by rw [HX.out.1.cell, List.getElem?_toArray, hv9]
                  have zf := HX.out.1.frozen at_
                  have zl := HX.out.1.lt
                  obtain ⟨y, hy⟩ := ev_set x at_ k (by omega)
                  obtain ⟨Z, hZ⟩ : ∃ Z, Z = X.setCell ⟨ab, at_, none⟩ (.int .i64 k) := ⟨_, rfl⟩
                  have HZ : Hid (Blk Z ab 45 (evc y).toArray ∧ Step [] [] w Z) := Lib.hid ⟨by have hq := HX.out.1.set at_ (.int .i64 k); rw [List.setIfInBounds_toArray, hy, ← hZ] at hq; exact hq, by rw [hZ]; exact HX.out.2.setCell (.inr HAB.out) _⟩
                  clear hv9 hy
                  go_wp2_with fail
                  rw [← hZ]
                  clear hZ HX
                  go_roundw
                  case rel => exact ⟨i + 1, at_ + 1, [], y, by omega, by omega, by simp, by go_num, rfl, by go_num, HZ⟩
                  case measure => simp [intOf]; omega
        · have hsd : ((s[i].toNat : Int) != 32) = true := by simp; omega
          clear hsp
          have hlw : (wd ++ (s.drop i).take 1).length ≤ i + 1 := by simp only [List.length_append, List.length_take, List.length_drop]; omega
          go_wp2_with fail
          go_roundw
          case rel => exact ⟨i + 1, at_, wd ++ (s.drop i).take 1, x, by omega, by omega, hlw, rfl, by first | rfl | simp, by go_num, HW⟩
          case measure => simp [intOf]; omega
      · have hin : ¬ (i : Int) < s.length := by omega
        by_cases h4 : 4 < at_
        · have h4d : decide (4 < at_) = true := decide_eq_true h4
          have h4i : decide ((4 : Int) < (at_ : Int)) = true := decide_eq_true (by omega)
          go_wp2_with fail
          exact bodyPost_ret (results_tmp rfl _ _ _) rfl ⟨false, rfl, by simp, HW.out.2⟩
        · have h4d : decide (4 < at_) = false := decide_eq_false h4
          have h4i : decide ((4 : Int) < (at_ : Int)) = false := decide_eq_false (by omega)
          by_cases h7 : 7 < wd.length
          · have h7d : decide (7 < wd.length) = true := decide_eq_true h7
            have h7i : decide ((7 : Int) < (wd.length : Int)) = true := decide_eq_true (by omega)
            go_wp2_with fail
            exact bodyPost_ret (results_tmp rfl _ _ _) rfl ⟨false, rfl, by simp, HW.out.2⟩
          · have h7d : decide (7 < wd.length) = false := decide_eq_false h7
            have h7i : decide ((7 : Int) < (wd.length : Int)) = false := decide_eq_false (by omega)
            go_upto_block 2 with fail
            clear h4d h4i h7d h7i
            go_cut [7] (fun v wx => ∃ k : Int, -1 ≤ k ∧ k ≤ 16 ∧ v = .int .i64 k ∧ Hid (Blk wx ab 45 (evc x).toArray ∧ Step [] [] w wx))
            case first =>
              go_wp2_with fail
              go_loopw [7, 8] (fun vk v W => ∃ (k : Int) (n : Nat), -1 ≤ k ∧ k ≤ 16 ∧ n ≤ 17 ∧ vk = .int .i64 k ∧ v = .int .i64 n ∧ Hid (Blk W ab 45 (evc x).toArray ∧ Step [] [] w W)) (fun _ v _ => 17 - (intOf v).toNat)
              case atStart => exact ⟨-1, 0, by omega, by omega, by omega, rfl, rfl, HW⟩
              case round =>
                clear HW
                rename World => X
                obtain ⟨k, n, hk1, hk2, hn, rfl, rfl, HX⟩ := hrel
                by_cases hn6 : n ≤ 16
                · have hnd : decide (n ≤ 16) = true := decide_eq_true hn6
                  have hni : decide ((n : Int) ≤ 16) = true := decide_eq_true (by omega)
                  by_cases ha0 : at_ = 0
                  · have had : ((at_ : Int) == 0) = true := by simp [ha0]
                    have HA0 := Lib.hid ha0
                    clear ha0
                    go_wp2_with fail
                    refine (refLine_any ⟨n, 0, 0, 0, 0⟩ X).mono ?_
                    rintro e X2 ⟨rfl, k2⟩
                    have H2 : Hid (Blk X2 ab 45 (evc x).toArray ∧ Step [] [] w X2) := Lib.hid ⟨HX.out.1.step k2 (by simp), HX.out.2.trans k2⟩
                    clear k2 HX
                    obtain ⟨⟨t, ok⟩, ht⟩ : ∃ q, q = lineC ⟨n, 0, 0, 0, 0⟩ := ⟨_, rfl⟩
                    rw [← ht]
                    clear ht
                    by_cases hq : t = wd
                    · have hqd : (t == wd) = true := by simp [hq]
                      clear hq
                      go_wp2_with fail
                      go_roundw
                      case rel => exact ⟨n, n + 1, by omega, by omega, by omega, by go_num, by go_num, H2⟩
                      case measure => simp [intOf]; omega
                    · have hqd : (t == wd) = false := by simpa using hq
                      clear hq
                      go_wp2_with fail
                      go_roundw
                      case rel => exact ⟨k, n + 1, by omega, by omega, by omega, by go_num, by go_num, H2⟩
                      case measure => simp [intOf]; omega
                  · have had : ((at_ : Int) == 0) = false := by simp; omega
                    clear ha0
                    go_wp2_with fail
                    go_meet
                    exact ⟨k, hk1, hk2, rfl, HX⟩
                · have hnd : decide (n ≤ 16) = false := decide_eq_false hn6
                  have hni : decide ((n : Int) ≤ 16) = false := decide_eq_false (by omega)
                  go_wp2_with fail
                  go_meet
                  exact ⟨k, hk1, hk2, rfl, HX⟩
            case rest =>
              rename World => X
              obtain ⟨k, hk1, hk2, rfl, HX⟩ := hcut
              clear HW
              go_upto_if 64 with fail
              go_cut [7] (fun v wx => ∃ k : Int, 0 ≤ k ∧ k ≤ 2559 ∧ v = .int .i64 k ∧ Hid (Blk wx ab 45 (evc x).toArray ∧ Step [] [] w wx))
              case first =>
                by_cases hk0 : k < 0
                · have hkd : decide (k < 0) = true := decide_eq_true hk0
                  rw [hkd]
                  clear hk0 hkd
                  obtain ⟨g9, cap9, X3, hcv, hrw, hst, hg9⟩ := run_row_of_str (P := Tryd.prog) (w := X) 9 31 5 wd Tryd.underlying9 Tryd.underlying31 Tryd.underlying5 (by unfold maxLen; omega)
                  have H3 : Hid ((Blk X3 ab 45 (evc x).toArray ∧ Step [] [] w X3) ∧ Row X3 1 (some ⟨g9, 0, none⟩) wd.length cap9 (wd.map bv)) := Lib.hid ⟨⟨HX.out.1.step hst (by simp), HX.out.2.trans (hst.drop (by simp))⟩, hrw⟩
                  clear hrw hst hg9 HX
                  go_wp2_with fail
                  go_loopw [7, 68] (fun vk v W => ∃ (k : Int) (n : Nat), 0 ≤ k ∧ k ≤ 2559 ∧ n ≤ wd.length ∧ vk = .int .i64 k ∧ v = .int .i64 n ∧ Hid (W = X3)) (fun _ v _ => wd.length - (intOf v).toNat)
                  case atStart => exact ⟨0, 0, by omega, by omega, by omega, rfl, rfl, Lib.hid rfl⟩
                  case round =>
                    rename World => Y
                    obtain ⟨k, n, hk1, hk2, hn, rfl, rfl, HY⟩ := hrel
                    have hy := HY.out
                    subst hy
                    clear HY
                    by_cases hnl : n < wd.length
                    · have hnl' : (n : Int) < wd.length := by omega
                      obtain ⟨c, hc⟩ : ∃ c, wd[n]? = some c := ⟨_, List.getElem?_eq_getElem hnl⟩
                      have zq := H3.out.2.cell rfl n (by omega)
                      have zc := zq.1.trans (by rw [List.getElem?_map, hc]; rfl : (wd.map bv)[n]? = some (bv c))
                      rw [Nat.zero_add] at zc
                      have zl := H3.out.2.lt g9 (by simp [blks])
                      simp only [bv] at zc
                      obtain ⟨cn, hcn⟩ : ∃ n, n = c.toNat := ⟨_, rfl⟩
                      have hc8 : cn < 256 := by rw [hcn]; exact c.toNat_lt
                      rw [← hcn] at zc
                      clear zq hc hcn
                      by_cases t0 : cn < 48
                      · have t0d : decide ((cn : Int) < 48) = true := decide_eq_true (by omega)
                        have t0e : decide (cn < 48) = true := decide_eq_true t0
                        clear t0
                        go_wp2_with fail
                        exact bodyPost_ret (results_tmp rfl _ _ _) rfl ⟨false, rfl, by simp, H3.out.1.2⟩
                      · have t0d : decide ((cn : Int) < 48) = false := decide_eq_false (by omega)
                        have t0e : decide (cn < 48) = false := decide_eq_false t0
                        by_cases t1 : 57 < cn
                        · have t1d : decide ((57 : Int) < (cn : Int)) = true := decide_eq_true (by omega)
                          have t1e : decide (57 < cn) = true := decide_eq_true t1
                          clear t0 t1
                          go_wp2_with fail
                          exact bodyPost_ret (results_tmp rfl _ _ _) rfl ⟨false, rfl, by simp, H3.out.1.2⟩
                        · have t1d : decide ((57 : Int) < (cn : Int)) = false := decide_eq_false (by omega)
                          have t1e : decide (57 < cn) = false := decide_eq_false t1
                          by_cases t2 : 255 < k
                          · have t2d : decide (255 < k) = true := decide_eq_true t2
                            clear t0 t1 t2
                            go_wp2_with fail
                            exact bodyPost_ret (results_tmp rfl _ _ _) rfl ⟨false, rfl, by simp, H3.out.1.2⟩
                          · have t2d : decide (255 < k) = false := decide_eq_false t2
                            have hw1 : IntKind.u8.wrap ((cn : Int) - 48) = (cn : Int) - 48 := IntWalk.u8_in _ (by omega)
                            have hw2 : IntKind.i64.wrap ((cn : Int) - 48) = (cn : Int) - 48 := IntWalk.i64_in _ (by omega)
                            go_wp2_with fail
                            go_roundw
                            case rel => exact ⟨k * 10 + ((cn : Int) - 48), n + 1, by omega, by omega, by omega, by go_num, by go_num, Lib.hid (by first | rfl | trivial)⟩
                            case measure => simp [intOf]; omega
                    · obtain rfl : n = wd.length := by omega
                      have hnn : ¬ (wd.length : Int) < wd.length := by omega
                      go_wp2_with fail
                      go_meet
                      exact ⟨k, hk1, hk2, rfl, Lib.hid H3.out.1⟩
                · have hkd : decide (k < 0) = false := decide_eq_false hk0
                  rw [hkd]
                  go_wp2_with fail
                  go_meet
                  exact ⟨k, by omega, by omega, rfl, HX⟩
              case rest =>
                clear HX
                rename World => X
                obtain ⟨k, hk1, hk2, rfl, HX⟩ := hcut
                obtain ⟨v9, hv9⟩ := evc_some x at_ (by omega)
                have zc : X.cell? ⟨ab, at_, none⟩ = some (.int .i64 v9) := by rw [HX.out.1.cell, List.getElem?_toArray, hv9]
                have zf := HX.out.1.frozen at_
                have zl := HX.out.1.lt
                obtain ⟨y, hy⟩ := ev_set x at_ k (by omega)
                obtain ⟨Z, hZ⟩ : ∃ Z, Z = X.setCell ⟨ab, at_, none⟩ (.int .i64 k) := ⟨_, rfl⟩
                have HZ : Hid (Blk Z ab 45 (evc y).toArray ∧ Step [] [] w Z) := Lib.hid ⟨by have hq := HX.out.1.set at_ (.int .i64 k); rw [List.setIfInBounds_toArray, hy, ← hZ] at hq; exact hq, by rw [hZ]; exact HX.out.2.setCell (.inr HAB.out) _⟩
                clear hv9 hy
                go_wp2_with fail
                rw [← hZ]
                clear hZ HX
                go_roundw
                case rel => exact ⟨i + 1, at_ + 1, [], y, by omega, by omega, by simp, by go_num, rfl, by go_num, HZ⟩
                case measure => simp [intOf]; omega
    · obtain rfl : i = s.length + 1 := by omega
      have hnl : ¬ ((s.length + 1 : Nat) : Int) ≤ s.length := by omega
      have fc := HW.out.1.cell
      have f0 := fc 0
      have f1 := fc 1
      have f2 := fc 2
      have f3 := fc 3
      have f4 := fc 4
      clear fc
      simp only [evc, List.getElem?_toArray, List.getElem?_cons_zero, List.getElem?_cons_succ] at f0 f1 f2 f3 f4
      have fl := HW.out.1.lt
      go_wp2_with fail
      refine (refLine_any x W).mono ?_
      rintro e W2 ⟨rfl, k2⟩
      have H2 := Lib.hid (HW.out.2.trans k2)
      clear k2 HW f0 f1 f2 f3 f4 fl
      by_cases hr : rightE x = true
      · rw [lineC_yes hr]
        by_cases hls : lineE x = s
        · have hlb : (lineE x == s) = true := by simp [hls]
          have HE : Hid (∃ x : Ev, rightE x = true ∧ lineE x = s) := Lib.hid ⟨x, hr, hls⟩
          clear hr hls
          go_wp2_with fail
          exact bodyPost_ret (results_tmp rfl _ _ _) rfl ⟨true, rfl, fun _ => HE.out, H2.out⟩
        · have hlb : (lineE x == s) = false := by simpa using hls
          clear hr
          go_wp2_with fail
          exact bodyPost_ret (results_tmp rfl _ _ _) rfl ⟨false, rfl, by simp, H2.out⟩
      · rw [lineC_no hr]
        clear hr
        go_wp2_with fail
        exact bodyPost_ret (results_tmp rfl _ _ _) rfl ⟨false, rfl, by simp, H2.out⟩
end Go.Proofs.YtnklfcejdkpjfaaDoor
