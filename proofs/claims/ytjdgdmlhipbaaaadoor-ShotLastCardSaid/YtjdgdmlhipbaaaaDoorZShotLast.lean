/-
 ShotLast: of snapshots that were put in any order, the one with the greatest index is told; of two of one index the one that was put last. The row lists the library's tables as Go lays them. No condition beyond the row's.
-/
import Derived.Test.YtjdgdmlhipbaaaaDoorZGE
import Derived.Test.YtjdgdmlhipbaaaaDoorZGJ
namespace Go.Proofs.YtjdgdmlhipbaaaaDoor
open Go.RowKit Go.Lib Go.ChangeShapes Go.WideShapes Go.ChangeAt
set_option linter.unusedSimpArgs false
set_option linter.unusedVariables false
set_option maxRecDepth 100000

structure LaW (w W : World) (S : List Nat) (E : List En) (d tb k n : Nat) (best : Sn) : Prop where
 dk : Dk W S d (lstS E)
 st : Step [] (tb :: S) w W
 pb : Blk W tb 29 (snc best).toArray
 nb : tb ∉ S
 ls : Lst E n k best
 ok : Ok6 (lstS E) k
section
variable {w W W1 : World} {S S' T : List Nat} {E E' : List En} {d tb k n : Nat} {best best' : Sn}
theorem LaW.quiet (h : LaW w W S E d tb k n best) (q : Step [] T W W1) : LaW w W1 S E d tb k n best :=
 ⟨h.dk.keep q, h.st.trans ((q.drop (S'' := []) (by simp)).keep _), h.pb.step q (by simp), h.nb, h.ls, h.ok⟩
theorem LaW.low (h : LaW w W S E d tb k n best) {g : Nat} (hg : g < w.heap.size) : g ≠ tb := by
 rintro rfl
 rcases h.st.fresh g (by simp) with h1 | h1
 ·simp at h1
 ·omega
end
/-- What stands while the disk has turned and the best one has not. -/
structure LaM (w W : World) (S : List Nat) (E : List En) (d tb k n : Nat) (best x : Sn) : Prop where
 dk : Dk W S d (lstS E)
 st : Step [] (tb :: S) w W
 pb : Blk W tb 29 (snc best).toArray
 nb : tb ∉ S
 ls : Lst E n k (bestOf x best)
 ok : Ok6 (lstS E) k
theorem LaM.quiet {w W W1 : World} {S T : List Nat} {E : List En} {d tb k n : Nat} {best x : Sn} (h : LaM w W S E d tb k n best x) (q : Step [] T W W1) : LaM w W1 S E d tb k n best x :=
 ⟨h.dk.keep q, h.st.trans ((q.drop (S'' := []) (by simp)).keep _), h.pb.step q (by simp), h.nb, h.ls, h.ok⟩
theorem LaM.is {w W : World} {S : List Nat} {E : List En} {d tb k n : Nat} {best x : Sn} (h : LaM w W S E d tb k n best x) (hb : bestOf x best = best) : LaW w W S E d tb k n best :=
 ⟨h.dk, h.st, h.pb, h.nb, by rw [← hb]; exact h.ls, h.ok⟩
theorem LaM.set {w W W1 : World} {S : List Nat} {E : List En} {d tb k n : Nat} {best x : Sn} (h : LaM w W S E d tb k n best x) (hb : bestOf x best = x) (ub : Blk W1 tb 29 (snc x).toArray) (uk : Step [tb] [tb] W W1) : LaW w W1 S E d tb k n x :=
 ⟨h.dk.step uk (fun y hy hm => by simp at hm; subst hm; exact h.nb hy), h.st.trans (uk.wide (by simp) (fun j hj => by rcases List.mem_cons.1 hj with rfl | hj; exact .inl (by simp); exact .inl (by simp [hj]))), ub, h.nb, by rw [← hb]; exact h.ls, h.ok⟩
theorem min_nat (a : Nat) : min (a : Int) 200000 = ((min a 200000 : Nat) : Int) := by omega
set_option maxHeartbeats 4000000 in
theorem last08_any (l : List Sn) (a : Option Addr) (cap : Nat) (w : World) (hT : PTab w) (hU : Tabs w) (hr : Rd w 3 a l.length (l.flatMap snc)) (hq : ∀ x ∈ l, SnB x) (hl : l.length ≤ 4611686018427387904) : Calls Tryd.prog 3 #[.slice a l.length cap] w fun e w' => e = .returned (.bool true) ∧ Step [] [] w w' := by
 have HT := Lib.hid (And.intro hT hU)
 have HRD := Lib.hid hr
 have HQ := Lib.hid hq
 clear hT hU hr hq
 go_enter Tryd.func3, Tryd.ntmps3
 go_wp2_with fail
 refine (awake08_true w HT.out.1 HT.out.2).mono ?_
 rintro e w1 ⟨rfl, st1⟩
 have H1 := Lib.hid st1
 clear st1
 go_wp2_with fail
 refine (snew_ok 8388608 w1 (by decide)).mono ?_
 rintro e w2 ⟨S2, d, rfl, hd, st2⟩
 have H2 : Hid (Dk w2 S2 d (newS 8388608) ∧ Step [] S2 w w2) := Lib.hid ⟨hd, H1.out.trans st2⟩
 clear hd st2 H1
 go_upto_region 5 with fail
 obtain ⟨tb, htb⟩ : ∃ tb, tb = w2.heap.size := ⟨_, rfl⟩
 obtain ⟨V, hV⟩ : ∃ V, V = w2.alloc (.cells (snc ⟨-1, 0, []⟩).toArray 29) := ⟨_, rfl⟩
 have H3 : Hid (LaW w V S2 [] d tb 0 0 ⟨-1, 0, []⟩) := by
  subst hV htb
  have k1 : Step [] [] w2 (w2.alloc (.cells (snc ⟨-1, 0, []⟩).toArray 29)) := (Step.refl [] w2).alloc _
  exact ⟨H2.out.1.keep k1, H2.out.2.hold _, Blk.new w2 _ _, fun hm => by have := H2.out.1.lt _ hm; omega, lst_nil, ok_new (by decide)⟩
 change Code.wp _ _ _ _ (w2.alloc (.cells (snc ⟨-1, 0, []⟩).toArray 29))
 rw [← hV]
 try rw [← htb]
 clear hV htb H2
 go_wp2_with fail
 obtain ⟨N, hN⟩ : ∃ N, N = l.length := ⟨_, rfl⟩
 rw [← hN] at hl ⊢
 have HN := Lib.hid hN
 clear hN
 go_loopw [6, 7] (fun nv i W => ∃ (k n : Nat), i = .int .i64 k ∧ k ≤ N ∧ k ≤ 20 ∧ nv = .int .i64 n ∧ n ≤ 200000 ∧ Hid (∃ best S E, LaW w W S E d tb k n best)) (fun _ i _ => N - (intOf i).toNat)
 case atStart => exact ⟨0, 0, rfl, by omega, by omega, rfl, by omega, Lib.hid ⟨_, _, _, H3.out⟩⟩
 case round =>
  rename World => W
  obtain ⟨k, n, rfl, hkN, hk1, rfl, hn, HW0⟩ := hrel
  obtain ⟨best, S, E, hw⟩ := HW0.out
  have HW := Lib.hid hw
  clear hw HW0
  by_cases hlt : k < N
  ·have hlt' : (k : Int) < N := by omega
   have hltd : decide ((k : Int) < N) = true := decide_eq_true hlt'
   by_cases h20 : (k : Int) < 20
   ·have h2d : decide ((k : Int) < 20) = true := decide_eq_true h20
    obtain ⟨x, hx⟩ : ∃ x, l[k]? = some x := ⟨_, List.getElem?_eq_getElem (by rw [← HN.out]; exact hlt)⟩
    have HX := Lib.hid hx
    have hxl : x.dt.length ≤ 140737488351232 := (HQ.out x (List.mem_of_getElem? hx)).dt
    obtain ⟨g, off, hs1⟩ := HRD.out.some_ (by rw [← HN.out]; omega)
    have HRG : Hid (Rd w 3 (some ⟨g, off, none⟩) l.length (l.flatMap snc)) := Lib.hid (by rw [← hs1]; exact HRD.out)
    rw [hs1]
    clear hs1 hx
    have hr2 := HRG.out.step0 (HW.out.st)
    have z0 := rd_fl snc 3 snc_len hr2 HX.out 0 (by omega) _ rfl
    have z1 := rd_fl snc 3 snc_len hr2 HX.out 1 (by omega) _ rfl
    have z2 := rd_fl snc 3 snc_len hr2 HX.out 2 (by omega) _ rfl
    have gl : g < W.heap.size := by have := World.block_lt_of_cell? _ _ z0; simpa using this
    simp only [Nat.add_zero] at z0
    clear hr2
    obtain ⟨m, hm⟩ : ∃ m, m = min x.dt.length 200000 := ⟨_, rfl⟩
    have hmin : min (x.dt.length : Int) 200000 = (m : Int) := by rw [hm, min_nat]
    have HM := Lib.hid hm
    have hm2 : m ≤ 200000 := by omega
    clear hm
    by_cases hfull : (200000 : Int) < (n : Int) + (m : Int)
    ·have hfd : decide ((200000 : Int) < (n : Int) + (m : Int)) = true := decide_eq_true hfull
     clear hfull
     go_wp2_with fail
     exact bodyPost_ret (results_tmp rfl _ _ _) rfl ⟨rfl, HW.out.st.drop (by simp)⟩
    have hfd : decide ((200000 : Int) < (n : Int) + (m : Int)) = false := decide_eq_false hfull
    have hnm : n + m ≤ 200000 := by omega
    clear hfull
    go_wp2_with fail
    clear hfd
    have hc := save_any x W S d (lstS E) HW.out.dk k HW.out.ok (by omega) w HT.out.1 HT.out.2 (HW.out.st.drop (fun _ h => by simp [h])) hxl
    by_cases hr : rightSn x = true
    case neg =>
     have hr' : rightSn x = false := by simpa using hr
     have HS : Hid (saveS (lstS E) x = (1, lstS E)) := Lib.hid (by unfold saveS; rw [if_pos hr'])
     rw [HS.out] at hc
     refine hc.mono ?_
     rintro e W1 ⟨rfl, S1, hd1, st1⟩
     have H4 : Hid (LaW w W1 S1 E d tb (k + 1) (n + m) best) := Lib.hid ⟨hd1, HW.out.st.trans (st1.wide (by intro j hj; simp [hj]) (by intro j hj; rcases List.mem_cons.1 hj with rfl | hj; exact .inl (by simp); exact .inr (.inl hj))), HW.out.pb.step st1 HW.out.nb, st1.notin HW.out.pb.lt HW.out.nb, HW.out.ls.more m, ok_more HW.out.ok⟩
     clear hc hd1 st1 HW z0 z1 z2
     have hr2 := HRG.out.step0 (H4.out.st)
     have z0 := rd_fl snc 3 snc_len hr2 HX.out 0 (by omega) _ rfl
     have z1 := rd_fl snc 3 snc_len hr2 HX.out 1 (by omega) _ rfl
     have z2 := rd_fl snc 3 snc_len hr2 HX.out 2 (by omega) _ rfl
     have gl : g < W1.heap.size := by have := World.block_lt_of_cell? _ _ z0; simpa using this
     simp only [Nat.add_zero] at z0
     clear hr2
     go_wp2_with fail
     refine (ref08Right_any x W1 hxl).mono ?_
     rintro e W2 ⟨rfl, st2⟩
     rw [hr']
     have H5 := Lib.hid (H4.out.quiet st2)
     clear st2 H4 z0 z1 z2
     have hr2 := HRG.out.step0 (H5.out.st)
     have z0 := rd_fl snc 3 snc_len hr2 HX.out 0 (by omega) _ rfl
     have z1 := rd_fl snc 3 snc_len hr2 HX.out 1 (by omega) _ rfl
     have z2 := rd_fl snc 3 snc_len hr2 HX.out 2 (by omega) _ rfl
     have gl : g < W2.heap.size := by have := World.block_lt_of_cell? _ _ z0; simpa using this
     simp only [Nat.add_zero] at z0
     clear hr2
     go_upto_region 15 with fail
     go_quiet (fail)
     obtain ⟨W3, hW3⟩ : ∃ W3, W3 = W2.drewN nq := ⟨_, rfl⟩
     have H6 : Hid (LaW w W3 S1 E d tb (k + 1) (n + m) best) := by subst hW3; exact H5.out.quiet ((Step.refl [] W2).drewN nq)
     rw [← hW3]
     clear hW3 H5 z0 z1 z2
     go_wp2_with fail
     go_roundw
     case rel => exact ⟨k + 1, n + m, by go_num, by omega, by omega, by go_num, by omega, Lib.hid ⟨_, _, _, H6.out⟩⟩
     case measure => simp [intOf]; omega
    case pos =>
     have hR := rightSn_iff.1 hr
     obtain ⟨E', hE1, hE2⟩ := save_still (s := lstS E) rfl rfl HW.out.dk.ris hR (HW.out.ls.room (by omega) hn hR)
     have hok := ok_save HW.out.ok HW.out.dk.ris x (by omega)
     have hls := HW.out.ls.step hR hE2 m (by have := HM.out; have := hR.dt; omega)
     rw [hE1] at hc hok
     refine hc.mono ?_
     rintro e W1 ⟨rfl, S1, hd1, st1⟩
     have H4 : Hid (LaM w W1 S1 E' d tb (k + 1) (n + m) best x) := Lib.hid ⟨hd1, HW.out.st.trans (st1.wide (by intro j hj; simp [hj]) (by intro j hj; rcases List.mem_cons.1 hj with rfl | hj; exact .inl (by simp); exact .inr (.inl hj))), HW.out.pb.step st1 HW.out.nb, st1.notin HW.out.pb.lt HW.out.nb, hls, hok⟩
     clear hc hd1 st1 HW z0 z1 z2 hE1 hE2 hok hls hR
     have hr2 := HRG.out.step0 (H4.out.st)
     have z0 := rd_fl snc 3 snc_len hr2 HX.out 0 (by omega) _ rfl
     have z1 := rd_fl snc 3 snc_len hr2 HX.out 1 (by omega) _ rfl
     have z2 := rd_fl snc 3 snc_len hr2 HX.out 2 (by omega) _ rfl
     have gl : g < W1.heap.size := by have := World.block_lt_of_cell? _ _ z0; simpa using this
     simp only [Nat.add_zero] at z0
     clear hr2
     go_wp2_with fail
     refine (ref08Right_any x W1 hxl).mono ?_
     rintro e W2 ⟨rfl, st2⟩
     rw [hr]
     have H5 := Lib.hid (H4.out.quiet st2)
     clear st2 H4 z0 z1 z2 hr
     have hr2 := HRG.out.step0 (H5.out.st)
     have z0 := rd_fl snc 3 snc_len hr2 HX.out 0 (by omega) _ rfl
     have z1 := rd_fl snc 3 snc_len hr2 HX.out 1 (by omega) _ rfl
     have z2 := rd_fl snc 3 snc_len hr2 HX.out 2 (by omega) _ rfl
     have gl : g < W2.heap.size := by have := World.block_lt_of_cell? _ _ z0; simpa using this
     simp only [Nat.add_zero] at z0
     clear hr2
     have fc := H5.out.pb.cell
     have c0 := fc 0
     clear fc
     simp only [snc, List.getElem?_toArray, List.getElem?_cons_zero, List.getElem?_cons_succ] at c0
     by_cases hbx : best.i ≤ x.i
     ·have hbd : decide (best.i ≤ x.i) = true := decide_eq_true hbx
      have HBX : Hid (bestOf x best = x) := Lib.hid (by unfold bestOf; rw [if_pos hbx])
      clear hbx
      go_upto_region 15 with fail
      go_quiet (fail)
      obtain ⟨W3, hW3⟩ : ∃ W3, W3 = W2.drewN nq := ⟨_, rfl⟩
      have H6 : Hid (LaM w W3 S1 E' d tb (k + 1) (n + m) best x) := by subst hW3; exact H5.out.quiet ((Step.refl [] W2).drewN nq)
      rw [← hW3]
      clear hW3 H5 z0 z1 z2 c0
      have hr2 := HRG.out.step0 (H6.out.st)
      have z0 := rd_fl snc 3 snc_len hr2 HX.out 0 (by omega) _ rfl
      have z1 := rd_fl snc 3 snc_len hr2 HX.out 1 (by omega) _ rfl
      have z2 := rd_fl snc 3 snc_len hr2 HX.out 2 (by omega) _ rfl
      have gl : g < W3.heap.size := by have := World.block_lt_of_cell? _ _ z0; simpa using this
      simp only [Nat.add_zero] at z0
      clear hr2
      have HPB : Hid (Blk W3 tb 29 (snc best).toArray) := Lib.hid H6.out.pb
      go_wp2_with (refine wpList_storeRow (T := 29) (b := tb) (T' := 29) (cs := (snc best).toArray) (vs := (snc x).toArray) rfl (.tmp 5) (.tmp 77) rfl rfl rfl Tryd.sSnap HPB.out rfl (snc_one x) ?_; intro U ub uk)
      have H7 : Hid (LaW w U S1 E' d tb (k + 1) (n + m) x) := Lib.hid (H6.out.set HBX.out ub uk)
      clear H6 ub uk HPB z0 z1 z2
      go_roundw
      case rel => exact ⟨k + 1, n + m, by go_num, by omega, by omega, by go_num, by omega, Lib.hid ⟨_, _, _, H7.out⟩⟩
      case measure => simp [intOf]; omega
     ·have hbd : decide (best.i ≤ x.i) = false := decide_eq_false hbx
      have HBX : Hid (bestOf x best = best) := Lib.hid (by unfold bestOf; rw [if_neg hbx])
      clear hbx
      go_upto_region 15 with fail
      go_quiet (fail)
      obtain ⟨W3, hW3⟩ : ∃ W3, W3 = W2.drewN nq := ⟨_, rfl⟩
      have H6 : Hid (LaW w W3 S1 E' d tb (k + 1) (n + m) best) := by subst hW3; exact (H5.out.quiet ((Step.refl [] W2).drewN nq)).is HBX.out
      rw [← hW3]
      clear hW3 H5 z0 z1 z2 c0
      go_wp2_with fail
      go_roundw
      case rel => exact ⟨k + 1, n + m, by go_num, by omega, by omega, by go_num, by omega, Lib.hid ⟨_, _, _, H6.out⟩⟩
      case measure => simp [intOf]; omega
   ·have h2d : decide ((k : Int) < 20) = false := decide_eq_false h20
    go_wp2_with fail
    have hc := load_any W S d (lstS E) HW.out.dk k HW.out.ok (HT.out.1.step HW.out.st)
    rw [HW.out.ls.load HW.out.dk.ris] at hc
    by_cases hneg : best.i < 0
    ·have hnd : decide (best.i < 0) = true := decide_eq_true hneg
     rw [if_pos hneg] at hc
     refine hc.mono ?_
     rintro e W1 ⟨rfl, st1⟩
     have H4 := Lib.hid (HW.out.quiet st1)
     clear hc st1 HW hneg
     go_upto_region 18 with fail
     obtain ⟨yb, hyb⟩ : ∃ yb, yb = W1.heap.size := ⟨_, rfl⟩
     obtain ⟨V, hV⟩ : ∃ V, V = W1.alloc (.cells (snc sn0).toArray 29) := ⟨_, rfl⟩
     have H5 : Hid (LaW w V S E d tb k n best ∧ Blk V yb 29 (snc sn0).toArray) := by
      subst hV hyb
      exact ⟨H4.out.quiet ((Step.refl [] W1).alloc _), Blk.new W1 _ _⟩
     change Code.wp _ _ _ _ (W1.alloc (.cells (snc sn0).toArray 29))
     rw [← hV]
     try rw [← hyb]
     clear hV hyb H4
     have fc := H5.out.1.pb.cell
     have c0 := fc 0
     have c1 := fc 1
     have c2 := fc 2
     clear fc
     simp only [snc, List.getElem?_toArray, List.getElem?_cons_zero, List.getElem?_cons_succ] at c0 c1 c2
     have fc := H5.out.2.cell
     have y0 := fc 0
     have y1 := fc 1
     have y2 := fc 2
     clear fc
     simp only [snc, List.getElem?_toArray, List.getElem?_cons_zero, List.getElem?_cons_succ] at y0 y1 y2
     go_wp2_with fail
     exact bodyPost_ret (results_tmp rfl _ _ _) rfl ⟨rfl, H5.out.1.st.drop (by simp)⟩
    ·have hnd : decide (best.i < 0) = false := decide_eq_false hneg
     have HNEG := Lib.hid hneg
     rw [if_neg hneg] at hc
     refine hc.mono ?_
     rintro e W1 ⟨rfl, st1⟩
     have H4 := Lib.hid (HW.out.quiet st1)
     clear hc st1 HW hneg
     go_upto_region 18 with fail
     obtain ⟨yb, hyb⟩ : ∃ yb, yb = W1.heap.size := ⟨_, rfl⟩
     obtain ⟨V, hV⟩ : ∃ V, V = W1.alloc (.cells (snc best).toArray 29) := ⟨_, rfl⟩
     have H5 : Hid (LaW w V S E d tb k n best ∧ Blk V yb 29 (snc best).toArray) := by
      subst hV hyb
      exact ⟨H4.out.quiet ((Step.refl [] W1).alloc _), Blk.new W1 _ _⟩
     change Code.wp _ _ _ _ (W1.alloc (.cells (snc best).toArray 29))
     rw [← hV]
     try rw [← hyb]
     clear hV hyb H4
     have fc := H5.out.1.pb.cell
     have c0 := fc 0
     have c1 := fc 1
     have c2 := fc 2
     clear fc
     simp only [snc, List.getElem?_toArray, List.getElem?_cons_zero, List.getElem?_cons_succ] at c0 c1 c2
     have fc := H5.out.2.cell
     have y0 := fc 0
     have y1 := fc 1
     have y2 := fc 2
     clear fc
     simp only [snc, List.getElem?_toArray, List.getElem?_cons_zero, List.getElem?_cons_succ] at y0 y1 y2
     go_wp2_with fail
     clear c0 c1 c2 y0 y1 y2
     obtain ⟨E', hE1, hE2⟩ := H5.out.1.ls.clean H5.out.1.dk.ris (Int.not_lt.2 HNEG.out)
     have hc := clean_any V S d (lstS E) H5.out.1.dk k H5.out.1.ok w HT.out.1 (H5.out.1.st.drop (fun _ h => by simp [h]))
     have hok := ok_clean H5.out.1.ok
     rw [hE1] at hc hok
     refine hc.mono ?_
     rintro e W2 ⟨rfl, S2, hd2, st2⟩
     have H6 : Hid (Dk W2 S2 d (lstS E') ∧ Step [] S2 w W2 ∧ Ok6 (lstS E') k ∧ (namesS (lstS E')).length = 1) := Lib.hid ⟨hd2, (H5.out.1.st.drop (fun _ h => by simp [h])).trans st2, hok, by show (E'.map En.n).length = 1; simpa using hE2⟩
     clear hc hd2 st2 hok hE1 hE2 H5
     go_wp2_with fail
     refine (names_any W2 S2 d (lstS E') H6.out.1 H6.out.2.2.1.b).mono ?_
     rintro e W3 ⟨a3, cap3, rfl, hrow3, st3⟩
     have H7 : Hid (Step [] [] w W3) := Lib.hid ((H6.out.2.1.trans ((st3.drop (S'' := []) (by simp)).keep _)).drop (by simp))
     rw [H6.out.2.2.2]
     clear hrow3 st3 H6
     go_wp2_with fail
     exact bodyPost_ret (results_tmp rfl _ _ _) rfl ⟨rfl, H7.out⟩
  ·have hnl : ¬ (k : Int) < N := by omega
   have hltd : decide ((k : Int) < N) = false := decide_eq_false hnl
   go_wp2_with fail
   have hc := load_any W S d (lstS E) HW.out.dk k HW.out.ok (HT.out.1.step HW.out.st)
   rw [HW.out.ls.load HW.out.dk.ris] at hc
   by_cases hneg : best.i < 0
   ·have hnd : decide (best.i < 0) = true := decide_eq_true hneg
    rw [if_pos hneg] at hc
    refine hc.mono ?_
    rintro e W1 ⟨rfl, st1⟩
    have H4 := Lib.hid (HW.out.quiet st1)
    clear hc st1 HW hneg
    go_upto_region 18 with fail
    obtain ⟨yb, hyb⟩ : ∃ yb, yb = W1.heap.size := ⟨_, rfl⟩
    obtain ⟨V, hV⟩ : ∃ V, V = W1.alloc (.cells (snc sn0).toArray 29) := ⟨_, rfl⟩
    have H5 : Hid (LaW w V S E d tb k n best ∧ Blk V yb 29 (snc sn0).toArray) := by
     subst hV hyb
     exact ⟨H4.out.quiet ((Step.refl [] W1).alloc _), Blk.new W1 _ _⟩
    change Code.wp _ _ _ _ (W1.alloc (.cells (snc sn0).toArray 29))
    rw [← hV]
    try rw [← hyb]
    clear hV hyb H4
    have fc := H5.out.1.pb.cell
    have c0 := fc 0
    have c1 := fc 1
    have c2 := fc 2
    clear fc
    simp only [snc, List.getElem?_toArray, List.getElem?_cons_zero, List.getElem?_cons_succ] at c0 c1 c2
    have fc := H5.out.2.cell
    have y0 := fc 0
    have y1 := fc 1
    have y2 := fc 2
    clear fc
    simp only [snc, List.getElem?_toArray, List.getElem?_cons_zero, List.getElem?_cons_succ] at y0 y1 y2
    go_wp2_with fail
    exact bodyPost_ret (results_tmp rfl _ _ _) rfl ⟨rfl, H5.out.1.st.drop (by simp)⟩
   ·have hnd : decide (best.i < 0) = false := decide_eq_false hneg
    have HNEG := Lib.hid hneg
    rw [if_neg hneg] at hc
    refine hc.mono ?_
    rintro e W1 ⟨rfl, st1⟩
    have H4 := Lib.hid (HW.out.quiet st1)
    clear hc st1 HW hneg
    go_upto_region 18 with fail
    obtain ⟨yb, hyb⟩ : ∃ yb, yb = W1.heap.size := ⟨_, rfl⟩
    obtain ⟨V, hV⟩ : ∃ V, V = W1.alloc (.cells (snc best).toArray 29) := ⟨_, rfl⟩
    have H5 : Hid (LaW w V S E d tb k n best ∧ Blk V yb 29 (snc best).toArray) := by
     subst hV hyb
     exact ⟨H4.out.quiet ((Step.refl [] W1).alloc _), Blk.new W1 _ _⟩
    change Code.wp _ _ _ _ (W1.alloc (.cells (snc best).toArray 29))
    rw [← hV]
    try rw [← hyb]
    clear hV hyb H4
    have fc := H5.out.1.pb.cell
    have c0 := fc 0
    have c1 := fc 1
    have c2 := fc 2
    clear fc
    simp only [snc, List.getElem?_toArray, List.getElem?_cons_zero, List.getElem?_cons_succ] at c0 c1 c2
    have fc := H5.out.2.cell
    have y0 := fc 0
    have y1 := fc 1
    have y2 := fc 2
    clear fc
    simp only [snc, List.getElem?_toArray, List.getElem?_cons_zero, List.getElem?_cons_succ] at y0 y1 y2
    go_wp2_with fail
    clear c0 c1 c2 y0 y1 y2
    obtain ⟨E', hE1, hE2⟩ := H5.out.1.ls.clean H5.out.1.dk.ris (Int.not_lt.2 HNEG.out)
    have hc := clean_any V S d (lstS E) H5.out.1.dk k H5.out.1.ok w HT.out.1 (H5.out.1.st.drop (fun _ h => by simp [h]))
    have hok := ok_clean H5.out.1.ok
    rw [hE1] at hc hok
    refine hc.mono ?_
    rintro e W2 ⟨rfl, S2, hd2, st2⟩
    have H6 : Hid (Dk W2 S2 d (lstS E') ∧ Step [] S2 w W2 ∧ Ok6 (lstS E') k ∧ (namesS (lstS E')).length = 1) := Lib.hid ⟨hd2, (H5.out.1.st.drop (fun _ h => by simp [h])).trans st2, hok, by show (E'.map En.n).length = 1; simpa using hE2⟩
    clear hc hd2 st2 hok hE1 hE2 H5
    go_wp2_with fail
    refine (names_any W2 S2 d (lstS E') H6.out.1 H6.out.2.2.1.b).mono ?_
    rintro e W3 ⟨a3, cap3, rfl, hrow3, st3⟩
    have H7 : Hid (Step [] [] w W3) := Lib.hid ((H6.out.2.1.trans ((st3.drop (S'' := []) (by simp)).keep _)).drop (by simp))
    rw [H6.out.2.2.2]
    clear hrow3 st3 H6
    go_wp2_with fail
    exact bodyPost_ret (results_tmp rfl _ _ _) rfl ⟨rfl, H7.out⟩
theorem op_sns {w : World} {cs : List Value} (h : Op Tryd.prog w 22 cs) : ∃ (l : List Sn) (a : Option Addr) (cap : Nat), cs = [.slice a l.length cap] ∧ Rd w 3 a l.length (l.flatMap snc) ∧ (∀ o ∈ l, SnB o) ∧ l.length ≤ 4611686018427387904 := by
 obtain ⟨a, n, cap, e, h1, h2, h3, h4⟩ := h.slice Tryd.underlying22 (sz := 3) (by kernel_rfl)
 obtain ⟨l, hl, hr, hq⟩ := rd_of (w := w) snc 3 (by omega) snc_len (a := a) (n := n) (fun o => SnB o) (fun i hi => by
  obtain ⟨cs', hlen, ⟨ad, hx, hc⟩, hop⟩ := h4 i hi
  obtain ⟨o, e2, hB⟩ := op_sn hop
  subst e2
  exact ⟨o, ⟨ad, hx, hc⟩, hB⟩)
 subst hl
 exact ⟨l, a, cap, e, hr, hq, by rw [show Tryd.prog.bytesOf 29 = 32 by kernel_rfl] at h3; omega⟩
theorem ShotLast_walk (v0 : Value) (w : World) {b0 : Nat} (h0 : Value.okWide Tryd.prog w .any b0 22 v0) (o0 : Op Tryd.prog w 22 v0.cells.toList) (hT : LTabs w) :
  Calls Tryd.prog 3 #[v0] w fun e w' => e = .returned (.bool true) ∧ Below w.heap.size w w' := by
 obtain ⟨a9, n9, c9, rfl⟩ := okWide_slice Tryd.underlying22 h0
 obtain ⟨l, a, cap, e, hr, hq, hl⟩ := op_sns o0
 simp [Value.cells] at e
 obtain ⟨rfl, rfl, rfl⟩ := e
 exact (last08_any l _ _ w hT.pow hT.u8 hr hq hl).mono fun e w' ⟨h1, h2⟩ => ⟨h1, h2.below0⟩

set_option maxRecDepth 100000 in
theorem ShotLast_lifted (os : Os) (started : os.Started) (H : Type) (enc : TypeId × Value → H) :
  ReturnsInHanded {} Tryd.checked os 3 .any (fun w args => (Rows.shotLastSpec.pre enc Tryd.prog Tryd.f3 [] false w args ∧ laidMetH Tryd.prog scrLaid w) ∧ sizedMet enc Tryd.prog Tryd.f3 (OpenSpec.ofChange Rows.shotLastSpec) false w args)
   (Rows.shotLastSpec.post enc Tryd.prog Tryd.f3 false true false false) := by
 refine returnsInHanded_of_change_tabs (C := Tryd.checked) (X := fun w _ => laidMetH Tryd.prog scrLaid w) (fun _ _ _ hh h => h.of_heap hh) (by kernel_rfl) started (by kernel_rfl) Tryd.func3
  (ChangeSpec.witness_shaped (enc := enc) (C := Tryd.checked) (os := os) (X := fun w _ => laidMetH Tryd.prog scrLaid w) false (World.laidAll Tryd.prog os scrLaid) #[.slice none 0 0] 8 (World.laidAll_os _ _ _)
   (World.shaped_of_ZipB (by kernel_rfl) (by kernel_rfl)) (by kernel_rfl) (by kernel_rfl) (by kernel_rfl)
   (by rw [MakeChecks.laidMetH_plain _ _ _ (by kernel_rfl)]; exact laidMet_laidAll _ (by kernel_rfl) (by kernel_rfl))) ?_
 intro W base args ds gs before hval0 hW _ hsz0 hL hS _
 have hval : ∀ (j : Nat) t v, Tryd.f3.params[j]? = some t → args[j]? = some v → Value.okWide Tryd.prog W .any base t v := hval0
 have hsz : (DataW.weightsEach Tryd.prog (Tryd.f3.params.toList ++ Rows.shotLastSpec.plain.varTypes Tryd.prog) (ds ++ gs)).all (· ≤ reachBytes) = true := hsz0
 have hW' := hW
 have hT := stabs_of hL hS
 obtain ⟨p, q, hA0, hV, rfl, _, _⟩ := hW
 have hA : DataW.TrodAll enc Tryd.prog W 0 (fun _ => true) true Tryd.f3.params.toList args.toList ds p := hA0
 rw [Tryd.params3] at hA hval hsz
 obtain ⟨v0, vs0, d0, ds0, p0, q0, hargs, rfl, rfl, h0, r0⟩ := trodAll_cons hA
 obtain ⟨rfl, rfl, rfl⟩ := trodAll_nil r0
 obtain rfl : args = #[v0] := by cases args; simp_all
 obtain ⟨rfl, rfl⟩ := trodVars_none hV
 have lt0 : ∀ x ∈ p0, x.block < W.heap.size := by obtain ⟨m, hm⟩ := h0; exact DataW.trod_lt m _ _ _ hm
 have o0 := op_of hsz (j := 0) rfl rfl h0
 refine (ShotLast_walk v0 W (hval 0 _ v0 rfl rfl) o0 hT).mono fun e W' ⟨he, bel⟩ => ?_
 subst he
 exact ⟨_, rfl, _, _, _, [], _, [], hW', trodAll_mk1 (shut_bool Tryd.underlying4 _), (trodAll_cons_mk (Below.trod (by kernel_rfl) (by kernel_rfl) (of_decide_eq_true (by kernel_rfl)) h0 bel lt0) trodAll_mk0), rfl, bel.frame _, fun h => by cases h⟩

/-- The row's statement. -/
theorem ShotLast_row : Rows.ShotLastSaid :=
 OpenClaim.holds_of_wide 3 Tryd.f3 rfl rfl rfl rfl rfl rfl rfl ⟨rfl, rfl, rfl, rfl, rfl⟩ rfl rfl rfl rfl rfl (by kernel_rfl) Tryd.func3 (by kernel_rfl)
  (of_decide_eq_true (by kernel_rfl)) (by unfold Func.isWrapper; rw [if_neg (of_decide_eq_false (by kernel_rfl))]; exact ⟨rfl, rfl⟩)
  (fun os started H enc _ => ShotLast_lifted os started H enc)
/-- The card. -/
theorem ShotLast_holds : Rows.ShotLastCardSaid :=
 Claim7.holds_tied_plain_at .later [] [.data, .data, .data, .data, .pinned] true Rows.shotLastCard.stood.harness false
  ShotLast_row (fun _ h => by cases h) (by kernel_rfl) (fun _ h => by cases h) shotLast_row_tie rfl ⟨rfl, rfl⟩ (by kernel_rfl) rfl
  (fun f fn hf hfn => by
   obtain rfl : f = 3 := Option.some.inj ((show Tryd.prog.funcNamed "exchequer/exchequerlaw08.ShotLast" = some 3 by kernel_rfl).symm.trans hf) |>.symm
   obtain rfl : fn = Tryd.f3 := (Option.some.inj (Tryd.func3.symm.trans hfn)).symm
   exact ⟨by kernel_rfl, fun j t ht => by
    rw [Tryd.params3] at ht
    have hm : t ∈ [22] := by simpa using Array.mem_of_getElem? ht
    have hall : ([22].all fun u => !Tryd.prog.wantsStandIn u) = true := by kernel_rfl
    exact (show Tryd.prog.wantsStandIn t = false by simpa using List.all_eq_true.1 hall t hm)⟩)
  (by kernel_rfl)
#print axioms ShotLast_holds
end Go.Proofs.YtjdgdmlhipbaaaaDoor
