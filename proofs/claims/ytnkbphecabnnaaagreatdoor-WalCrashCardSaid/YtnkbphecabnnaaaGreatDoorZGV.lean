/-
 No log and no disk; the document's File, Right, AllRight, Same; the law's begins, right. Conditions: lengths.
-/
import Derived.Test.YtnkbphecabnnaaaGreatDoorZGS
import Derived.Test.YtnkbphecabnnaaaGreatDoorZGU
namespace Go.Proofs.YtnkbphecabnnaaaGreatDoor
open Go.RowKit Go.Lib Go.Maps
set_option linter.unusedSimpArgs false
set_option linter.unusedVariables false
set_option maxRecDepth 100000

set_option maxHeartbeats 2000000 in
theorem rfile_any (n : Nat) (hn : n ≤ 999999999999) (w : World) : Calls Tryz.prog 10 #[.int .i64 n] w fun e w' => e = .returned (Str (fileW n)) ∧ Step [] [] w w' := by
 go_enter Tryz.func10, Tryz.ntmps10
 go_wp2_with fail
 go_loopw [0, 3, 4] (fun un us ui Wx => ∃ (j : Nat), j ≤ 12 ∧ un = .int .i64 ((n / 10 ^ j : Nat) : Int) ∧ us = Str (digs j n) ∧ ui = .int .i64 j ∧ Hid (Step [] [] w Wx)) (fun un us ui _ => 12 - (intOf ui).toNat)
 case atStart => exact ⟨0, by omega, by simp, rfl, rfl, Lib.hid (Step.refl _ _)⟩
 case round =>
  rename World => Wr
  obtain ⟨j, hj, rfl, rfl, rfl, HW⟩ := hrel
  obtain ⟨m, hm⟩ : ∃ m, m = n / 10 ^ j := ⟨_, rfl⟩
  have hml : m ≤ 999999999999 := by rw [hm]; exact Nat.le_trans (Nat.div_le_self _ _) hn
  obtain ⟨ds, hds⟩ : ∃ ds, ds = digs j n := ⟨_, rfl⟩
  have hdl : ds.length ≤ 12 := by rw [hds, digs_len]; exact hj
  have HM := Lib.hid (And.intro hm hds)
  rw [← hm, ← hds]
  clear hm hds
  by_cases hlt : j < 12
  ·have hlt' : (j : Int) < 12 := by omega
   have hm10 : m % 10 < 10 := Nat.mod_lt m (by omega)
   have hmod : (m : Int).tmod 10 = ((m % 10 : Nat) : Int) := by rw [Int.ofNat_tmod]; rfl
   have hmod2 : (m : Int) % 10 = ((m % 10 : Nat) : Int) := by omega
   have hquo : (m : Int).tdiv 10 = ((m / 10 : Nat) : Int) := by rw [Int.ofNat_tdiv]; rfl
   have hquo2 : (m : Int) / 10 = ((m / 10 : Nat) : Int) := by omega
   have HNX : Hid (UInt8.ofNat (48 + m % 10) :: ds = digs (j + 1) n ∧ m / 10 = n / 10 ^ (j + 1)) := Lib.hid ⟨by rw [wdigs_front, HM.out.1, HM.out.2], by rw [HM.out.1, Nat.div_div_eq_div_mul, Nat.pow_succ]⟩
   obtain ⟨r, hr⟩ : ∃ r, r = m % 10 := ⟨_, rfl⟩
   obtain ⟨m', hm'⟩ : ∃ m', m' = m / 10 := ⟨_, rfl⟩
   rw [← hr] at hmod hmod2 hm10 HNX
   rw [← hm'] at hquo hquo2 HNX
   have hwr : IntKind.u8.wrap (48 + (r : Int)) = ((48 + r : Nat) : Int) := by simp [IntKind.wrap, IntKind.signed, IntKind.bits]; omega
   obtain ⟨dg, hdg⟩ : ∃ d : UInt8, d = UInt8.ofNat (48 + r) := ⟨_, rfl⟩
   have hbv : (Value.int .u8 ((48 + r : Nat) : Int)) = bv dg := by rw [hdg]; simp only [bv]; rw [UInt8.toNat_ofNat_of_lt' (by simp [UInt8.size]; omega)]
   have hs : (convert 22 9 (.slice (some ⟨Wr.heap.size, 0, none⟩) 1 1)).run Tryz.prog (Wr.alloc (.cells #[.int .u8 (48 + (r : Int))] 5)) = .ok (Str [dg]) (Wr.alloc (.cells #[.int .u8 (48 + (r : Int))] 5)) := by
    have hc : (Value.int .u8 (48 + (r : Int))) = bv dg := by rw [← hbv]; congr 1
    rw [hc]
    exact run_str_of_row 22 9 5 Tryz.underlying22 Tryz.underlying5 Tryz.underlying9 (l := [dg]) (row_fresh Wr 5 ([dg].map bv) (by simp [maxLen]))
   have HD := Lib.hid hdg
   clear hr hm' hdg hbv
   go_wp2_with fail
   go_roundw
   case rel => exact ⟨j + 1, by omega, by rw [HNX.out.2], by rw [← HNX.out.1, ← HD.out], by go_num, Lib.hid (HW.out.alloc _)⟩
   case measure => simp [intOf]; omega
  ·obtain rfl : j = 12 := by omega
   go_wp2_with fail
   refine bodyPost_ret (results_tmp rfl _ _ _) rfl ⟨?_, HW.out⟩
   rw [show fileW n = [119] ++ ds by rw [HM.out.2]; rfl]
   rfl
set_option maxHeartbeats 4000000 in
theorem rright_any (r : Rc) (w : World) (hl : r.dt.length ≤ 140737488351232) : Calls Tryz.prog 19 #[rcV r] w fun e w' => e = .returned (.bool (rightRc r)) ∧ Step [] [] w w' := by
 go_enter Tryz.func19, Tryz.ntmps19
 go_upto_region 1 with fail
 obtain ⟨rb, hrb⟩ : ∃ rb, rb = w.heap.size := ⟨_, rfl⟩
 obtain ⟨V, hV⟩ : ∃ V, V = w.alloc (.cells (rcc r).toArray 45) := ⟨_, rfl⟩
 have H0 : Hid (Blk V rb 45 (rcc r).toArray ∧ Step [] [] w V) := by
  subst hV hrb
  exact ⟨Blk.new w _ _, (Step.refl [] w).alloc _⟩
 change Code.wp _ _ _ _ (w.alloc (.cells (rcc r).toArray 45))
 rw [← hV]
 try rw [← hrb]
 clear hV hrb
 have fc := H0.out.1.cell
 have f0 := fc 0
 have f1 := fc 1
 have f2 := fc 2
 have f3 := fc 3
 have f4 := fc 4
 clear fc
 simp only [rcc, List.getElem?_toArray, List.getElem?_cons_zero, List.getElem?_cons_succ] at f0 f1 f2 f3 f4
 by_cases g0 : r.k < 2
 ·have d0 : decide (r.k < 2) = true := decide_eq_true g0
  have e0 : decide (2 ≤ r.k) = false := decide_eq_false (by omega)
  have HF : Hid (rightRc r = false) := Lib.hid (by unfold rightRc numOk; rw [show decide (2 ≤ r.k) = false from decide_eq_false (by omega)]; simp)
  clear g0
  go_wp2_with fail
  exact bodyPost_ret (results_tmp rfl _ _ _) rfl ⟨by rw [HF.out] <;> rfl, H0.out.2⟩
 have d0 : decide (r.k < 2) = false := decide_eq_false g0
 have e0 : decide (2 ≤ r.k) = true := decide_eq_true (by omega)
 by_cases g1 : 4 < r.k
 ·have d1 : decide (4 < r.k) = true := decide_eq_true g1
  have e1 : decide (r.k ≤ 4) = false := decide_eq_false (by omega)
  have HF : Hid (rightRc r = false) := Lib.hid (by unfold rightRc numOk; rw [show decide (r.k ≤ 4) = false from decide_eq_false (by omega)]; simp)
  clear g1
  go_wp2_with fail
  exact bodyPost_ret (results_tmp rfl _ _ _) rfl ⟨by rw [HF.out] <;> rfl, H0.out.2⟩
 have d1 : decide (4 < r.k) = false := decide_eq_false g1
 have e1 : decide (r.k ≤ 4) = true := decide_eq_true (by omega)
 by_cases g2 : r.i < 0
 ·have d2 : decide (r.i < 0) = true := decide_eq_true g2
  have e2 : decide (0 ≤ r.i) = false := decide_eq_false (by omega)
  have HF : Hid (rightRc r = false) := Lib.hid (by unfold rightRc numOk; rw [show decide (0 ≤ r.i) = false from decide_eq_false (by omega)]; simp)
  clear g2
  go_wp2_with fail
  exact bodyPost_ret (results_tmp rfl _ _ _) rfl ⟨by rw [HF.out] <;> rfl, H0.out.2⟩
 have d2 : decide (r.i < 0) = false := decide_eq_false g2
 have e2 : decide (0 ≤ r.i) = true := decide_eq_true (by omega)
 by_cases g3 : r.t < 0
 ·have d3 : decide (r.t < 0) = true := decide_eq_true g3
  have e3 : decide (0 ≤ r.t) = false := decide_eq_false (by omega)
  have HF : Hid (rightRc r = false) := Lib.hid (by unfold rightRc numOk; rw [show decide (0 ≤ r.t) = false from decide_eq_false (by omega)]; simp)
  clear g3
  go_wp2_with fail
  exact bodyPost_ret (results_tmp rfl _ _ _) rfl ⟨by rw [HF.out] <;> rfl, H0.out.2⟩
 have d3 : decide (r.t < 0) = false := decide_eq_false g3
 have e3 : decide (0 ≤ r.t) = true := decide_eq_true (by omega)
 by_cases g4 : r.v < 0
 ·have d4 : decide (r.v < 0) = true := decide_eq_true g4
  have e4 : decide (0 ≤ r.v) = false := decide_eq_false (by omega)
  have HF : Hid (rightRc r = false) := Lib.hid (by unfold rightRc numOk; rw [show decide (0 ≤ r.v) = false from decide_eq_false (by omega)]; simp)
  clear g4
  go_wp2_with fail
  exact bodyPost_ret (results_tmp rfl _ _ _) rfl ⟨by rw [HF.out] <;> rfl, H0.out.2⟩
 have d4 : decide (r.v < 0) = false := decide_eq_false g4
 have e4 : decide (0 ≤ r.v) = true := decide_eq_true (by omega)
 by_cases g5 : (131072 : Int) < (r.dt.length : Int)
 ·have d5 : decide ((131072 : Int) < (r.dt.length : Int)) = true := decide_eq_true g5
  have e5 : decide ((r.dt.length : Int) ≤ (131072 : Int)) = false := decide_eq_false (by omega)
  have HF : Hid (rightRc r = false) := Lib.hid (by unfold rightRc numOk; rw [show decide (r.dt.length ≤ 131072) = false from decide_eq_false (by omega)]; simp)
  clear g5
  go_wp2_with fail
  exact bodyPost_ret (results_tmp rfl _ _ _) rfl ⟨by rw [HF.out] <;> rfl, H0.out.2⟩
 have d5 : decide ((131072 : Int) < (r.dt.length : Int)) = false := decide_eq_false g5
 have e5 : decide ((r.dt.length : Int) ≤ (131072 : Int)) = true := decide_eq_true (by omega)
 by_cases g6 : 1099511627776 < r.i
 ·have d6 : decide (1099511627776 < r.i) = true := decide_eq_true g6
  have e6 : decide (r.i ≤ 1099511627776) = false := decide_eq_false (by omega)
  have HF : Hid (rightRc r = false) := Lib.hid (by unfold rightRc numOk; rw [show decide (r.i ≤ 1099511627776) = false from decide_eq_false (by omega)]; simp)
  clear g6
  go_wp2_with fail
  exact bodyPost_ret (results_tmp rfl _ _ _) rfl ⟨by rw [HF.out] <;> rfl, H0.out.2⟩
 have d6 : decide (1099511627776 < r.i) = false := decide_eq_false g6
 have e6 : decide (r.i ≤ 1099511627776) = true := decide_eq_true (by omega)
 by_cases g7 : 1099511627776 < r.t
 ·have d7 : decide (1099511627776 < r.t) = true := decide_eq_true g7
  have e7 : decide (r.t ≤ 1099511627776) = false := decide_eq_false (by omega)
  have HF : Hid (rightRc r = false) := Lib.hid (by unfold rightRc numOk; rw [show decide (r.t ≤ 1099511627776) = false from decide_eq_false (by omega)]; simp)
  clear g7
  go_wp2_with fail
  exact bodyPost_ret (results_tmp rfl _ _ _) rfl ⟨by rw [HF.out] <;> rfl, H0.out.2⟩
 have d7 : decide (1099511627776 < r.t) = false := decide_eq_false g7
 have e7 : decide (r.t ≤ 1099511627776) = true := decide_eq_true (by omega)
 by_cases g8 : 1099511627776 < r.v
 ·have d8 : decide (1099511627776 < r.v) = true := decide_eq_true g8
  have e8 : decide (r.v ≤ 1099511627776) = false := decide_eq_false (by omega)
  have HF : Hid (rightRc r = false) := Lib.hid (by unfold rightRc numOk; rw [show decide (r.v ≤ 1099511627776) = false from decide_eq_false (by omega)]; simp)
  clear g8
  go_wp2_with fail
  exact bodyPost_ret (results_tmp rfl _ _ _) rfl ⟨by rw [HF.out] <;> rfl, H0.out.2⟩
 have d8 : decide (1099511627776 < r.v) = false := decide_eq_false g8
 have e8 : decide (r.v ≤ 1099511627776) = true := decide_eq_true (by omega)
 have HF : Hid (rightRc r = true) := Lib.hid (by unfold rightRc numOk; simp only [Bool.and_eq_true, decide_eq_true_eq]; omega)
 clear g0 g1 g2 g3 g4 g5 g6 g7 g8
 go_wp2_with fail
 exact bodyPost_ret (results_tmp rfl _ _ _) rfl ⟨by rw [HF.out] <;> rfl, H0.out.2⟩
set_option maxHeartbeats 2000000 in
theorem rallright_any (l : List Rc) (a : Option Addr) (cap : Nat) (w : World) (hr : Rd w 5 a l.length (rcs l)) (hll : l.length ≤ 9223372036854775807) (hall : ∀ r ∈ l, rightRc r = true) : Calls Tryz.prog 14 #[.slice a l.length cap] w fun e w' => e = .returned (.bool true) ∧ Step [] [] w w' := by
 have HR := Lib.hid (And.intro hr hall)
 clear hr hall
 go_enter Tryz.func14, Tryz.ntmps14
 go_wp2_with fail
 obtain ⟨N, hN⟩ : ∃ N, N = l.length := ⟨_, rfl⟩
 have HN := Lib.hid hN
 rw [← hN] at hll ⊢
 clear hN
 go_loopw [3] (fun i Wx => ∃ j : Nat, i = .int .i64 j ∧ j ≤ N ∧ Hid (Step [] [] w Wx)) (fun i _ => N - (intOf i).toNat)
 case atStart => exact ⟨0, rfl, by omega, Lib.hid (Step.refl _ _)⟩
 case round =>
  rename World => Wr
  obtain ⟨j, rfl, hj, HW⟩ := hrel
  by_cases hlt : j < N
  ·have hlt' : (j : Int) < (N : Int) := by omega
   obtain ⟨r, hx⟩ : ∃ r, l[j]? = some r := ⟨_, List.getElem?_eq_getElem (by rw [← HN.out]; exact hlt)⟩
   have hrd := HR.out.1.step0 HW.out
   rw [← HN.out] at hrd
   obtain ⟨g, off, hs1⟩ := hrd.some_ (by omega)
   rw [hs1] at hrd
   obtain ⟨z0, z1, z2, z3, z4⟩ := rd_rc hrd hx
   have gl : g < Wr.heap.size := by have := World.block_lt_of_cell? _ _ z0; simpa using this
   have hrr := HR.out.2 r (List.mem_of_getElem? hx)
   have hdt := (rightRc_ok hrr).1.dt
   have HRR := Lib.hid hrr
   subst hs1
   clear hx hrd hrr
   go_wp2_with fail
   refine (rright_any r Wr (by omega)).mono ?_
   rintro e w2 ⟨rfl, st⟩
   rw [HRR.out]
   have H2 := Lib.hid (HW.out.trans st)
   clear st z0 z1 z2 z3 z4
   go_wp2_with fail
   go_roundw
   case rel => exact ⟨j + 1, by go_num, by omega, H2⟩
   case measure => simp [intOf]; omega
  ·obtain rfl : j = N := by omega
   go_wp2_with fail
   exact bodyPost_ret (results_tmp rfl _ _ _) rfl ⟨rfl, HW.out⟩
set_option maxHeartbeats 8000000 in
theorem rsame_any (x y : List Rc) (a b : Option Addr) (ca cb : Nat) (w : World) (hx : Rd w 5 a x.length (rcs x)) (hy : Rd w 5 b y.length (rcs y)) (hll : x.length ≤ 9223372036854775807) : Calls Tryz.prog 13 #[.slice a x.length ca, .slice b y.length cb] w fun e w' => e = .returned (.bool (decide (x = y))) ∧ Step [] [] w w' := by
 have HR := Lib.hid (And.intro hx hy)
 clear hx hy
 by_cases hlen : x.length = y.length
 case neg =>
  have hd : ((x.length : Int) != (y.length : Int)) = true := by simp; omega
  have HD : Hid (decide (x = y) = false) := Lib.hid (decide_eq_false (by rintro rfl; exact hlen rfl))
  clear hlen
  go_enter Tryz.func13, Tryz.ntmps13
  go_wp2_with fail
  exact bodyPost_ret (results_tmp rfl _ _ _) rfl ⟨by rw [HD.out]; rfl, Step.refl _ _⟩
 obtain ⟨N, hN⟩ : ∃ N, N = x.length := ⟨_, rfl⟩
 have HN : Hid (N = x.length ∧ N = y.length) := Lib.hid ⟨hN, by omega⟩
 rw [← hlen, ← hN]
 rw [← hN] at hll
 clear hlen hN
 go_enter Tryz.func13, Tryz.ntmps13
 go_wp2_with fail
 go_loopw [5] (fun i Wx => ∃ j : Nat, i = .int .i64 j ∧ j ≤ N ∧ Hid (Step [] [] w Wx ∧ x.take j = y.take j)) (fun i _ => N - (intOf i).toNat)
 case atStart => exact ⟨0, rfl, by omega, Lib.hid ⟨Step.refl _ _, rfl⟩⟩
 case round =>
  rename World => Wr
  obtain ⟨j, rfl, hj, HW⟩ := hrel
  by_cases hlt : j < N
  ·have hlt' : (j : Int) < (N : Int) := by omega
   obtain ⟨r, hx⟩ : ∃ r, x[j]? = some r := ⟨_, List.getElem?_eq_getElem (by rw [← HN.out.1]; exact hlt)⟩
   obtain ⟨q, hy⟩ : ∃ q, y[j]? = some q := ⟨_, List.getElem?_eq_getElem (by rw [← HN.out.2]; exact hlt)⟩
   have hrd := HR.out.1.step0 HW.out.1
   have hrd2 := HR.out.2.step0 HW.out.1
   rw [← HN.out.1] at hrd
   rw [← HN.out.2] at hrd2
   obtain ⟨g, off, hs1⟩ := hrd.some_ (by omega)
   obtain ⟨g2, off2, hs2⟩ := hrd2.some_ (by omega)
   rw [hs1] at hrd
   rw [hs2] at hrd2
   obtain ⟨z0, z1, z2, z3, z4⟩ := rd_rc hrd hx
   obtain ⟨y0, y1, y2, y3, y4⟩ := rd_rc hrd2 hy
   have gl : g < Wr.heap.size := by have := World.block_lt_of_cell? _ _ z0; simpa using this
   have gl2 : g2 < Wr.heap.size := by have := World.block_lt_of_cell? _ _ y0; simpa using this
   have HT : Hid (x.take (j + 1) = x.take j ++ [r] ∧ y.take (j + 1) = y.take j ++ [q]) := Lib.hid ⟨by rw [List.take_add_one, hx]; rfl, by rw [List.take_add_one, hy]; rfl⟩
   have HNE : Hid (r ≠ q → decide (x = y) = false) := Lib.hid (fun hne => decide_eq_false (by rintro rfl; rw [hx] at hy; exact hne (Option.some.inj hy)))
   have hlt0 : (0 : Int) ≤ (j : Int) := by omega
   subst hs1 hs2
   clear hx hy hrd hrd2
   by_cases hrq : r = q
   ·subst hrq
    go_upto_region 6 with fail
    go_quiet (fail)
    go_wp2_with fail
    go_roundw
    case rel => exact ⟨j + 1, by go_num, by omega, Lib.hid ⟨HW.out.1.drewN _, by rw [HT.out.1, HT.out.2, HW.out.2]⟩⟩
    case measure => simp [intOf]; omega
   ·have HD := Lib.hid (HNE.out hrq)
    obtain ⟨rk, ri, rt, rv, rd⟩ := r
    obtain ⟨qk, qi, qt, qv, qd⟩ := q
    clear HNE HT
    by_cases hk : rk = qk
    case neg =>
     have ek : (rk == qk) = false := by simpa using hk
     clear hrq
     go_upto_region 6 with fail
     go_quiet (fail)
     go_wp2_with fail
     exact bodyPost_ret (results_tmp rfl _ _ _) rfl ⟨by rw [HD.out]; rfl, HW.out.1.drewN _⟩
    subst hk
    by_cases hi : ri = qi
    case neg =>
     have ei : (ri == qi) = false := by simpa using hi
     clear hrq
     go_upto_region 6 with fail
     go_quiet (fail)
     go_wp2_with fail
     exact bodyPost_ret (results_tmp rfl _ _ _) rfl ⟨by rw [HD.out]; rfl, HW.out.1.drewN _⟩
    subst hi
    by_cases ht : rt = qt
    case neg =>
     have et : (rt == qt) = false := by simpa using ht
     clear hrq
     go_upto_region 6 with fail
     go_quiet (fail)
     go_wp2_with fail
     exact bodyPost_ret (results_tmp rfl _ _ _) rfl ⟨by rw [HD.out]; rfl, HW.out.1.drewN _⟩
    subst ht
    by_cases hv : rv = qv
    case neg =>
     have ev : (rv == qv) = false := by simpa using hv
     clear hrq
     go_upto_region 6 with fail
     go_quiet (fail)
     go_wp2_with fail
     exact bodyPost_ret (results_tmp rfl _ _ _) rfl ⟨by rw [HD.out]; rfl, HW.out.1.drewN _⟩
    subst hv
    have hd : ¬ rd = qd := by rintro rfl; exact hrq rfl
    have ed : (rd == qd) = false := by simpa using hd
    clear hrq
    go_upto_region 6 with fail
    go_quiet (fail)
    go_wp2_with fail
    exact bodyPost_ret (results_tmp rfl _ _ _) rfl ⟨by rw [HD.out]; rfl, HW.out.1.drewN _⟩
  ·obtain rfl : j = N := by omega
   have HD : Hid (decide (x = y) = true) := Lib.hid (decide_eq_true (by
    have h := HW.out.2
    rwa [List.take_of_length_le (by rw [← HN.out.1]; exact Nat.le_refl _), List.take_of_length_le (by rw [← HN.out.2]; exact Nat.le_refl _)] at h))
   go_wp2_with fail
   exact bodyPost_ret (results_tmp rfl _ _ _) rfl ⟨by rw [HD.out]; rfl, HW.out.1⟩

end Go.Proofs.YtnkbphecabnnaaaGreatDoor
namespace Go.Proofs.YtnkbphecabnnaaaGreatDoor
open Go.RowKit Go.Lib Go.Maps
set_option linter.unusedSimpArgs false
set_option linter.unusedVariables false
set_option maxRecDepth 100000

structure RgR (l : List Rc) (w : World) (j : Nat) (b : Option Addr) (n c : Nat) (W : World) : Prop where
  nn : n = (rgL (l.take j)).length
  row : Row W 5 b n c (rcs (rgL (l.take j)))
  st : Step [] (blks b) w W
theorem rcs_take (l : List Rc) (k : Nat) : rcs (l.take k) = (rcs l).take (k * 5) := by
  induction l generalizing k with
  | nil => simp [rcs]
  | cons r q ih =>
    cases k with
    | zero => simp [rcs]
    | succ k =>
      rw [List.take_succ_cons]
      show rcc r ++ rcs (q.take k) = (rcc r ++ rcs q).take ((k + 1) * 5)
      rw [ih, List.take_append, rcc_len, List.take_of_length_le (l := rcc r) (by rw [rcc_len]; omega), show (k + 1) * 5 - 5 = k * 5 by omega]
set_option maxHeartbeats 2000000 in
theorem law07begins_any (x y : List Rc) (a b : Option Addr) (ca cb least : Nat) (w : World) (hx : Rd w 5 a x.length (rcs x)) (hy : Rd w 5 b y.length (rcs y)) (hll : x.length ≤ 9223372036854775807) (hmin : least ≤ x.length) (hle : x.length ≤ y.length) (hcb : y.length ≤ cb) (heq : x = y.take x.length) :
    Calls Tryz.prog 22 #[.slice a x.length ca, .slice b y.length cb, .int .i64 least] w fun e w' => e = .returned (.bool true) ∧ Step [] [] w w' := by
  have HR := Lib.hid (And.intro hx (And.intro hy heq))
  obtain ⟨n, hn⟩ : ∃ n, n = x.length := ⟨_, rfl⟩
  obtain ⟨m, hm⟩ : ∃ m, m = y.length := ⟨_, rfl⟩
  have HN := Lib.hid (And.intro hn hm)
  rw [← hn] at hle hmin hll ⊢
  rw [← hm] at hle hcb ⊢
  clear hx hy heq hn hm
  have q1 : (least : Int) ≤ (n : Int) := by omega
  have q2 : (n : Int) ≤ (m : Int) := by omega
  have q3 : (n : Int) ≤ (cb : Int) := by omega
  have q4 : (0 : Int) ≤ (n : Int) := by omega
  go_enter Tryz.func22, Tryz.ntmps22
  go_wp2_with fail
  have hsm := rsame_any x (y.take n) a b ca cb w HR.out.1 (by
    have h := HR.out.2.1.take n (by rw [← HN.out.2]; exact hle)
    rw [rcs_take]
    rwa [show (y.take n).length = n by rw [List.length_take]; have := HN.out.2; omega]) (by rw [← HN.out.1]; exact hll)
  rw [show (y.take n).length = n by rw [List.length_take]; have := HN.out.2; omega, ← HN.out.1, decide_eq_true (by rw [HN.out.1]; exact HR.out.2.2)] at hsm
  refine hsm.mono ?_
  rintro e w1 ⟨rfl, st⟩
  have H1 := Lib.hid st
  clear st hsm
  go_wp2_with fail
  exact bodyPost_ret (results_tmp rfl _ _ _) rfl ⟨rfl, H1.out⟩

end Go.Proofs.YtnkbphecabnnaaaGreatDoor
