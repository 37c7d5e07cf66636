/-
 No log and no disk; the document's File, Right, AllRight, Same; the law's begins, right. Conditions: lengths.
-/
import Derived.Test.YtnkbphecabnnaaaGreatDoorZGS
import Derived.Test.YtnkbphecabnnaaaGreatDoorZGU
namespace Go.Proofs.YtnkbphecabnnaaaGreatDoor
open Go.RowKit Go.Lib Go.Maps
set_option linter.unusedSimpArgs false
set_option linter.unusedVariables false
set_option maxRecDepth 100000

set_option maxHeartbeats 4000000 in
theorem rright_any (r : Rc) (w : World) (hl : r.dt.length ≤ 140737488351232) : Calls Tryz.prog 19 #[rcV r] w fun e w' => e = .returned (.bool (rightRc r)) ∧ Step [] [] w w' := by
 go_enter Tryz.func19, Tryz.ntmps19
 go_upto_region 1 with fail
 obtain ⟨rb, hrb⟩ : ∃ rb, rb = w.heap.size := ⟨_, rfl⟩
 obtain ⟨V, hV⟩ : ∃ V, V = w.alloc (.cells (rcc r).toArray 45) := ⟨_, rfl⟩
 have H0 : Hid (Blk V rb 45 (rcc r).toArray ∧ Step [] [] w V) := by
  subst hV hrb
  exact ⟨Blk.new w _ _, (Step.refl [] w).alloc _⟩
 change Code.wp _ _ _ _ (w.alloc (.cells (rcc r).toArray 45))
 rw [← hV]
 try rw [← hrb]
 clear hV hrb
 have fc := H0.out.1.cell
 have f0 := fc 0
 have f1 := fc 1
 have f2 := fc 2
 have f3 := fc 3
 have f4 := fc 4
 clear fc
 simp only [rcc, List.getElem?_toArray, List.getElem?_cons_zero, List.getElem?_cons_succ] at f0 f1 f2 f3 f4
 by_cases g0 : r.k < 2
 ·have d0 : decide (r.k < 2) = true := decide_eq_true g0
  have e0 : decide (2 ≤ r.k) = false := decide_eq_false (by omega)
  have HF : Hid (rightRc r = false) := Lib.hid (by unfold rightRc numOk; rw [show decide (2 ≤ r.k) = false from decide_eq_false (by omega)]; simp)
  clear g0
  go_wp2_with fail
  exact bodyPost_ret (results_tmp rfl _ _ _) rfl ⟨by rw [HF.out] <;> rfl, H0.out.2⟩
 have d0 : decide (r.k < 2) = false := decide_eq_false g0
 have e0 : decide (2 ≤ r.k) = true := decide_eq_true (by omega)
 by_cases g1 : 4 < r.k
 ·have d1 : decide (4 < r.k) = true := decide_eq_true g1
  have e1 : decide (r.k ≤ 4) = false := decide_eq_false (by omega)
  have HF : Hid (rightRc r = false) := Lib.hid (by unfold rightRc numOk; rw [show decide (r.k ≤ 4) = false from decide_eq_false (by omega)]; simp)
  clear g1
  go_wp2_with fail
  exact bodyPost_ret (results_tmp rfl _ _ _) rfl ⟨by rw [HF.out] <;> rfl, H0.out.2⟩
 have d1 : decide (4 < r.k) = false := decide_eq_false g1
 have e1 : decide (r.k ≤ 4) = true := decide_eq_true (by omega)
 by_cases g2 : r.i < 0
 ·have d2 : decide (r.i < 0) = true := decide_eq_true g2
  have e2 : decide (0 ≤ r.i) = false := decide_eq_false (by omega)
  have HF : Hid (rightRc r = false) := Lib.hid (by unfold rightRc numOk; rw [show decide (0 ≤ r.i) = false from decide_eq_false (by omega)]; simp)
  clear g2
  go_wp2_with fail
  exact bodyPost_ret (results_tmp rfl _ _ _) rfl ⟨by rw [HF.out] <;> rfl, H0.out.2⟩
 have d2 : decide (r.i < 0) = false := decide_eq_false g2
 have e2 : decide (0 ≤ r.i) = true := decide_eq_true (by omega)
 by_cases g3 : r.t < 0
 ·have d3 : decide (r.t < 0) = true := decide_eq_true g3
  have e3 : decide (0 ≤ r.t) = false := decide_eq_false (by omega)
  have HF : Hid (rightRc r = false) := Lib.hid (by unfold rightRc numOk; rw [show decide (0 ≤ r.t) = false from decide_eq_false (by omega)]; simp)
  clear g3
  go_wp2_with fail
  exact bodyPost_ret (results_tmp rfl _ _ _) rfl ⟨by rw [HF.out] <;> rfl, H0.out.2⟩
 have d3 : decide (r.t < 0) = false := decide_eq_false g3
 have e3 : decide (0 ≤ r.t) = true := decide_eq_true (by omega)
 by_cases g4 : r.v < 0
 ·have d4 : decide (r.v < 0) = true := decide_eq_true g4
  have e4 : decide (0 ≤ r.v) = false := decide_eq_false (by omega)
  have HF : Hid (rightRc r = false) := Lib.hid (by unfold rightRc numOk; rw [show decide (0 ≤ r.v) = false from decide_eq_false (by omega)]; simp)
  clear g4
  go_wp2_with fail
  exact bodyPost_ret (results_tmp rfl _ _ _) rfl ⟨by rw [HF.out] <;> rfl, H0.out.2⟩
 have d4 : decide (r.v < 0) = false := decide_eq_false g4
 have e4 : decide (0 ≤ r.v) = true := decide_eq_true (by omega)
 by_cases g5 : (131072 : Int) < (r.dt.length : Int)
 ·have d5 : decide ((131072 : Int) < (r.dt.length : Int)) = true := decide_eq_true g5
  have e5 : decide ((r.dt.length : Int) ≤ (131072 : Int)) = false := decide_eq_false (by omega)
  have HF : Hid (rightRc r = false) := Lib.hid (by unfold rightRc numOk; rw [show decide (r.dt.length ≤ 131072) = false from decide_eq_false (by omega)]; simp)
  clear g5
  go_wp2_with fail
  exact bodyPost_ret (results_tmp rfl _ _ _) rfl ⟨by rw [HF.out] <;> rfl, H0.out.2⟩
 have d5 : decide ((131072 : Int) < (r.dt.length : Int)) = false := decide_eq_false g5
 have e5 : decide ((r.dt.length : Int) ≤ (131072 : Int)) = true := decide_eq_true (by omega)
 by_cases g6 : 1099511627776 < r.i
 ·have d6 : decide (1099511627776 < r.i) = true := decide_eq_true g6
  have e6 : decide (r.i ≤ 1099511627776) = false := decide_eq_false (by omega)
  have HF : Hid (rightRc r = false) := Lib.hid (by unfold rightRc numOk; rw [show decide (r.i ≤ 1099511627776) = false from decide_eq_false (by omega)]; simp)
  clear g6
  go_wp2_with fail
  exact bodyPost_ret (results_tmp rfl _ _ _) rfl ⟨by rw [HF.out] <;> rfl, H0.out.2⟩
 have d6 : decide (1099511627776 < r.i) = false := decide_eq_false g6
 have e6 : decide (r.i ≤ 1099511627776) = true := decide_eq_true (by omega)
 by_cases g7 : 1099511627776 < r.t
 ·have d7 : decide (1099511627776 < r.t) = true := decide_eq_true g7
  have e7 : decide (r.t ≤ 1099511627776) = false := decide_eq_false (by omega)
  have HF : Hid (rightRc r = false) := Lib.hid (by unfold rightRc numOk; rw [show decide (r.t ≤ 1099511627776) = false from decide_eq_false (by omega)]; simp)
  clear g7
  go_wp2_with fail
  exact bodyPost_ret (results_tmp rfl _ _ _) rfl ⟨by rw [HF.out] <;> rfl, H0.out.2⟩
 have d7 : decide (1099511627776 < r.t) = false := decide_eq_false g7
 have e7 : decide (r.t ≤ 1099511627776) = true := decide_eq_true (by omega)
 by_cases g8 : 1099511627776 < r.v
 ·have d8 : decide (1099511627776 < r.v) = true := decide_eq_true g8
  have e8 : decide (r.v ≤ 1099511627776) = false := decide_eq_false (by omega)
  have HF : Hid (rightRc r = false) := Lib.hid (by unfold rightRc numOk; rw [show decide (r.v ≤ 1099511627776) = false from decide_eq_false (by omega)]; simp)
  clear g8
  go_wp2_with fail
  exact bodyPost_ret (results_tmp rfl _ _ _) rfl ⟨by rw [HF.out] <;> rfl, H0.out.2⟩
 have d8 : decide (1099511627776 < r.v) = false := decide_eq_false g8
 have e8 : decide (r.v ≤ 1099511627776) = true := decide_eq_true (by omega)
 have HF : Hid (rightRc r = true) := Lib.hid (by unfold rightRc numOk; simp only [Bool.and_eq_true, decide_eq_true_eq]; omega)
 clear g0 g1 g2 g3 g4 g5 g6 g7 g8
 go_wp2_with fail
 exact bodyPost_ret (results_tmp rfl _ _ _) rfl ⟨by rw [HF.out] <;> rfl, H0.out.2⟩
set_option maxHeartbeats 8000000 in
theorem rsame_any (x y : List Rc) (a b : Option Addr) (ca cb : Nat) (w : World) (hx : Rd w 5 a x.length (rcs x)) (hy : Rd w 5 b y.length (rcs y)) (hll : x.length ≤ 9223372036854775807) : Calls Tryz.prog 13 #[.slice a x.length ca, .slice b y.length cb] w fun e w' => e = .returned (.bool (decide (x = y))) ∧ Step [] [] w w' := by
 have HR := Lib.hid (And.intro hx hy)
 clear hx hy
 by_cases hlen : x.length = y.length
 case neg =>
  have hd : ((x.length : Int) != (y.length : Int)) = true := by simp; omega
  have HD : Hid (decide (x = y) = false) := Lib.hid (decide_eq_false (by rintro rfl; exact hlen rfl))
  clear hlen
  go_enter Tryz.func13, Tryz.ntmps13
  go_wp2_with fail
  exact bodyPost_ret (results_tmp rfl _ _ _) rfl ⟨by rw [HD.out]; rfl, Step.refl _ _⟩
 obtain ⟨N, hN⟩ : ∃ N, N = x.length := ⟨_, rfl⟩
 have HN : Hid (N = x.length ∧ N = y.length) := Lib.hid ⟨hN, by omega⟩
 rw [← hlen, ← hN]
 rw [← hN] at hll
 clear hlen hN
 go_enter Tryz.func13, Tryz.ntmps13
 go_wp2_with fail
 go_loopw [5] (fun i Wx => ∃ j : Nat, i = .int .i64 j ∧ j ≤ N ∧ Hid (Step [] [] w Wx ∧ x.take j = y.take j)) (fun i _ => N - (intOf i).toNat)
 case atStart => exact ⟨0, rfl, by omega, Lib.hid ⟨Step.refl _ _, rfl⟩⟩
 case round =>
  rename World => Wr
  obtain ⟨j, rfl, hj, HW⟩ := hrel
  by_cases hlt : j < N
  ·have hlt' : (j : Int) < (N : Int) := by omega
   obtain ⟨r, hx⟩ : ∃ r, x[j]? = some r := ⟨_, List.getElem?_eq_getElem (by rw [← HN.out.1]; exact hlt)⟩
   obtain ⟨q, hy⟩ : ∃ q, y[j]? = some q := ⟨_, List.getElem?_eq_getElem (by rw [← HN.out.2]; exact hlt)⟩
   have hrd := HR.out.1.step0 HW.out.1
   have hrd2 := HR.out.2.step0 HW.out.1
   rw [← HN.out.1] at hrd
   rw [← HN.out.2] at hrd2
   obtain ⟨g, off, hs1⟩ := hrd.some_ (by omega)
   obtain ⟨g2, off2, hs2⟩ := hrd2.some_ (by omega)
   rw [hs1] at hrd
   rw [hs2] at hrd2
   obtain ⟨z0, z1, z2, z3, z4⟩ := rd_rc hrd hx
   obtain ⟨y0, y1, y2, y3, y4⟩ := rd_rc hrd2 hy
   have gl : g < Wr.heap.size := by have := World.block_lt_of_cell? _ _ z0; simpa using this
   have gl2 : g2 < Wr.heap.size := by have := World.block_lt_of_cell? _ _ y0; simpa using this
   have HT : Hid (x.take (j + 1) = x.take j ++ [r] ∧ y.take (j + 1) = y.take j ++ [q]) := Lib.hid ⟨by rw [List.take_add_one, hx]; rfl, by rw [List.take_add_one, hy]; rfl⟩
   have HNE : Hid (r ≠ q → decide (x = y) = false) := Lib.hid (fun hne => decide_eq_false (by rintro rfl; rw [hx] at hy; exact hne (Option.some.inj hy)))
   have hlt0 : (0 : Int) ≤ (j : Int) := by omega
   subst hs1 hs2
   clear hx hy hrd hrd2
   by_cases hrq : r = q
   ·subst hrq
    go_upto_region 6 with fail
    go_quiet (fail)
    go_wp2_with fail
    go_roundw
    case rel => exact ⟨j + 1, by go_num, by omega, Lib.hid ⟨HW.out.1.drewN _, by rw [HT.out.1, HT.out.2, HW.out.2]⟩⟩
    case measure => simp [intOf]; omega
   ·have HD := Lib.hid (HNE.out hrq)
    obtain ⟨rk, ri, rt, rv, rd⟩ := r
    obtain ⟨qk, qi, qt, qv, qd⟩ := q
    clear HNE HT
    by_cases hk : rk = qk
    case neg =>
     have ek : (rk == qk) = false := by simpa using hk
     clear hrq
     go_upto_region 6 with fail
     go_quiet (fail)
     go_wp2_with fail
     exact bodyPost_ret (results_tmp rfl _ _ _) rfl ⟨by rw [HD.out]; rfl, HW.out.1.drewN _⟩
    subst hk
    by_cases hi : ri = qi
    case neg =>
     have ei : (ri == qi) = false := by simpa using hi
     clear hrq
     go_upto_region 6 with fail
     go_quiet (fail)
     go_wp2_with fail
     exact bodyPost_ret (results_tmp rfl _ _ _) rfl ⟨by rw [HD.out]; rfl, HW.out.1.drewN _⟩
    subst hi
    by_cases ht : rt = qt
    case neg =>
     have et : (rt == qt) = false := by simpa using ht
     clear hrq
     go_upto_region 6 with fail
     go_quiet (fail)
     go_wp2_with fail
     exact bodyPost_ret (results_tmp rfl _ _ _) rfl ⟨by rw [HD.out]; rfl, HW.out.1.drewN _⟩
    subst ht
    by_cases hv : rv = qv
    case neg =>
     have ev : (rv == qv) = false := by simpa using hv
     clear hrq
     go_upto_region 6 with fail
     go_quiet (fail)
     go_wp2_with fail
     exact bodyPost_ret (results_tmp rfl _ _ _) rfl ⟨by rw [HD.out]; rfl, HW.out.1.drewN _⟩
    subst hv
    have hd : ¬ rd = qd := by rintro rfl; exact hrq rfl
    have ed : (rd == qd) = false := by simpa using hd
    clear hrq
    go_upto_region 6 with fail
    go_quiet (fail)
    go_wp2_with fail
    exact bodyPost_ret (results_tmp rfl _ _ _) rfl ⟨by rw [HD.out]; rfl, HW.out.1.drewN _⟩
  ·obtain rfl : j = N := by omega
   have HD : Hid (decide (x = y) = true) := Lib.hid (decide_eq_true (by
    have h := HW.out.2
    rwa [List.take_of_length_le (by rw [← HN.out.1]; exact Nat.le_refl _), List.take_of_length_le (by rw [← HN.out.2]; exact Nat.le_refl _)] at h))
   go_wp2_with fail
   exact bodyPost_ret (results_tmp rfl _ _ _) rfl ⟨by rw [HD.out]; rfl, HW.out.1⟩

end Go.Proofs.YtnkbphecabnnaaaGreatDoor
namespace Go.Proofs.YtnkbphecabnnaaaGreatDoor
open Go.RowKit Go.Lib Go.Maps
set_option linter.unusedSimpArgs false
set_option linter.unusedVariables false
set_option maxRecDepth 100000

def RgP (l : List Rc) (w : World) (e : Ending) (w' : World) : Prop := ∃ b c, e = .returned (.slice b (rgL l).length c) ∧ Row w' 5 b (rgL l).length c (rcs (rgL l)) ∧ Step [] (blks b) w w'
structure RgR (l : List Rc) (w : World) (j : Nat) (b : Option Addr) (n c : Nat) (W : World) : Prop where
  nn : n = (rgL (l.take j)).length
  row : Row W 5 b n c (rcs (rgL (l.take j)))
  st : Step [] (blks b) w W
set_option maxHeartbeats 4000000 in
theorem law07right_any (l : List Rc) (a : Option Addr) (cap : Nat) (w : World) (hr : Rd w 5 a l.length (rcs l)) (hll : l.length ≤ 9223372036854775807) (hb : ∀ r ∈ l, r.dt.length ≤ 140737488351232) : Calls Tryz.prog 23 #[.slice a l.length cap] w (RgP l w) := by
  obtain ⟨i0, hi, hz0, hz1, hz2⟩ := info_parts Tryz.info_rec
  have HI := Lib.hid (And.intro hi (And.intro hz0 (And.intro hz1 hz2)))
  clear hi hz0 hz1 hz2
  have HR := Lib.hid hr
  have HB := Lib.hid hb
  clear hr hb
  obtain ⟨N, hN⟩ : ∃ N, N = l.length := ⟨_, rfl⟩
  have HN := Lib.hid hN
  rw [← hN] at hll ⊢
  clear hN
  go_enter Tryz.func23, Tryz.ntmps23
  go_wp2_with fail
  go_loopw [7, 3] (fun i o Wx => ∃ (j : Nat) (b : Option Addr) (n c : Nat), i = .int .i64 j ∧ j ≤ N ∧ o = .slice b n c ∧ n ≤ 40 ∧ Hid (RgR l w j b n c Wx)) (fun i _ _ => N - (intOf i).toNat)
  case atStart => exact ⟨0, none, 0, 0, rfl, by omega, rfl, by omega, Lib.hid ⟨rfl, Row.none _ _, by simpa [blks] using Step.refl [] w⟩⟩
  case round =>
    rename World => Wr
    obtain ⟨j, b, n, c, rfl, hj, rfl, hn, HW⟩ := hrel
    by_cases hlt : j < N
    · have hlt' : (j : Int) < (N : Int) := by omega
      obtain ⟨r, hx⟩ : ∃ r, l[j]? = some r := ⟨_, List.getElem?_eq_getElem (by rw [← HN.out]; exact hlt)⟩
      have hrd := HR.out.step0 HW.out.st
      rw [← HN.out] at hrd
      obtain ⟨g, off, hs1⟩ := hrd.some_ (by omega)
      rw [hs1] at hrd
      obtain ⟨z0, z1, z2, z3, z4⟩ := rd_rc hrd hx
      have gl : g < Wr.heap.size := by have := World.block_lt_of_cell? _ _ z0; simpa using this
      have HG := Lib.hid (rgL_take l j r hx)
      have hdm : r.dt.length ≤ 140737488351232 := HB.out r (List.mem_of_getElem? hx)
      have HL40 : Hid ((rgL (l.take j)).length = n) := Lib.hid HW.out.nn.symm
      subst hs1
      clear hx hrd
      by_cases h40 : n < 40
      case neg =>
        have h40' : ¬ (n : Int) < 40 := by omega
        have HN2 : Hid (RgR l w (j + 1) b n c Wr) := Lib.hid (by
          have h := HG.out
          unfold rgS at h
          rw [if_neg (fun h => h40 (by rw [← HL40.out]; exact h.1))] at h
          exact ⟨by rw [h]; exact HW.out.nn, by rw [h]; exact HW.out.row, HW.out.st⟩)
        clear HG HL40 HW
        go_wp2_with fail
        go_roundw
        case rel => exact ⟨j + 1, b, n, c, by go_num, by omega, rfl, hn, HN2⟩
        case measure => simp [intOf]; omega
      have h40' : (n : Int) < 40 := by omega
      by_cases hdt : r.dt.length ≤ 1000
      case neg =>
        have hdt' : ¬ (r.dt.length : Int) ≤ 1000 := by omega
        have HN2 : Hid (RgR l w (j + 1) b n c Wr) := Lib.hid (by
          have h := HG.out
          unfold rgS at h
          rw [if_neg (fun h => hdt h.2.1)] at h
          exact ⟨by rw [h]; exact HW.out.nn, by rw [h]; exact HW.out.row, HW.out.st⟩)
        clear HG HL40 HW
        go_wp2_with fail
        go_roundw
        case rel => exact ⟨j + 1, b, n, c, by go_num, by omega, rfl, hn, HN2⟩
        case measure => simp [intOf]; omega
      have hdt' : (r.dt.length : Int) ≤ 1000 := by omega
      go_wp2_with fail
      refine (rright_any r Wr hdm).mono ?_
      rintro e w2 ⟨rfl, st⟩
      have H1 : Hid (Row w2 5 b n c (rcs (rgL (l.take j))) ∧ Step [] (blks b) w w2) := Lib.hid ⟨HW.out.row.step st (by simp), HW.out.st.trans (st.keep _)⟩
      have y0 := st.cell z0 (by simp)
      have y1 := st.cell z1 (by simp)
      have y2 := st.cell z2 (by simp)
      have y3 := st.cell z3 (by simp)
      have y4 := st.cell z4 (by simp)
      have gl2 : g < w2.heap.size := by have := World.block_lt_of_cell? _ _ y0; simpa using this
      clear st z0 z1 z2 z3 z4 gl
      cases hrr : rightRc r with
      | false =>
        have HN2 : Hid (RgR l w (j + 1) b n c w2) := Lib.hid (by
          have h := HG.out
          unfold rgS at h
          rw [if_neg (fun h => by rw [hrr] at h; simp at h)] at h
          exact ⟨by rw [h]; exact HW.out.nn, by rw [h]; exact H1.out.1, H1.out.2⟩)
        clear HG HL40 HW H1 hrr
        go_wp2_with fail
        go_roundw
        case rel => exact ⟨j + 1, b, n, c, by go_num, by omega, rfl, hn, HN2⟩
        case measure => simp [intOf]; omega
      | true =>
        have HG2 : Hid (rgL (l.take (j + 1)) = rgL (l.take j) ++ [r]) := Lib.hid (by rw [HG.out]; unfold rgS; rw [if_pos ⟨by rw [HL40.out]; exact h40, hdt, hrr⟩])
        clear HG hrr
        obtain ⟨nb, hnb⟩ : ∃ nb, nb = w2.heap.size := ⟨_, rfl⟩
        obtain ⟨U, hU⟩ : ∃ U, U = w2.alloc (.cells #[.int .i64 r.k, .int .i64 r.i, .int .i64 r.t, .int .i64 r.v, Str r.dt] 45) := ⟨_, rfl⟩
        have H3 : Hid (Row U 5 b n c (rcs (rgL (l.take j))) ∧ Step [] (blks b) w U ∧ Rd U 5 (some ⟨nb, 0, none⟩) 1 (rcc r)) := by
          subst hU hnb
          exact ⟨H1.out.1.alloc _, H1.out.2.alloc _, rd_blk' (xs := rcc r) (Blk.new w2 _ _) 5 1 rfl⟩
        have HNB := Lib.hid hnb
        have HU := Lib.hid hU
        clear hnb hU
        go_upto_region 7 with (at_builtin; rw [show w2.heap.size = nb from HNB.out.symm, show w2.alloc (.cells #[.int .i64 r.k, .int .i64 r.i, .int .i64 r.t, .int .i64 r.v, Str r.dt] 45) = U from HU.out.symm]; refine wpList_append_row rfl (.tmp 29) (.tmp 34) 32 32 rfl 45 i0 _ 5 48 Tryz.underlying32 HI.out.1 HI.out.2.1 HI.out.2.2.1 HI.out.2.2.2 rfl rfl H3.out.1 rfl (Src.rd 32 45 Tryz.underlying32 H3.out.2.2 (rcc_ones r)) (by unfold maxLen; omega) (by omega) (by omega) ?_; intro a3 c3 w3 r3 st3; have H4 := Lib.hid (And.intro r3 (H3.out.2.1.trans st3)); clear r3 st3)
        have HN2 : Hid (RgR l w (j + 1) a3 (n + 1) c3 w3) := Lib.hid ⟨by rw [HG2.out, List.length_append, HL40.out]; rfl, by rw [HG2.out, rcs_snoc]; exact H4.out.1, H4.out.2⟩
        clear HG2 H3 H4 H1 HW HL40 HNB HU y0 y1 y2 y3 y4
        go_wp2_with fail
        go_roundw
        case rel => exact ⟨j + 1, a3, n + 1, c3, by go_num, by omega, by go_num, by omega, HN2⟩
        case measure => simp [intOf]; omega
    · obtain rfl : j = N := by omega
      have HA : Hid (l.take j = l) := Lib.hid (List.take_of_length_le (by rw [← HN.out]; exact Nat.le_refl _))
      have h2 := HW.out.nn
      have h3 := HW.out.row
      rw [HA.out] at h2 h3
      have HE := Lib.hid (And.intro h2 (And.intro h3 HW.out.st))
      clear h2 h3 HW
      go_wp2_with fail
      refine bodyPost_ret (results_tmp rfl _ _ _) rfl ?_
      exact ⟨b, c, by rw [← HE.out.1]; rfl, by rw [← HE.out.1]; exact HE.out.2.1, HE.out.2.2⟩
end Go.Proofs.YtnkbphecabnnaaaGreatDoor
