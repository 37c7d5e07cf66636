/-
 ShotPlays: whatever is done with snapshots, over a disk that may lose its power, be full, and have anything on it, is answered as the document says, and leaves the disk as it says. The row lists the library's tables as Go lays them. No condition beyond the row's.
-/
import Derived.Test.YtjdgdmlhipbaaaaGreatDoorZGK
import Derived.Test.YtjdgdmlhipbaaaaGreatDoorZShPlOp
import Derived.Test.YtjdgdmlhipbaaaaGreatDoorZGR
namespace Go.Proofs.YtjdgdmlhipbaaaaGreatDoor
open Go.RowKit Go.Lib Go.ChangeShapes Go.WideShapes Go.ChangeAt
set_option linter.unusedSimpArgs false
set_option linter.unusedVariables false
set_option maxRecDepth 100000

structure P8 (w0 W : World) (S S2 : List Nat) (d rd : Nat) (s s2 : St) (b : Nat) (o : Ov) : Prop where
 pd : Pd w0 W S S2 d rd s s2
 blk : Blk W b 36 (opv o).toArray
 n1 : b ∉ S
 n2 : b ∉ S2
section
variable {w0 W W1 : World} {S S' S2 S2' : List Nat} {d rd b : Nat} {s s' s2 s2' : St} {o : Ov}
theorem P8.prog (h : P8 w0 W S S2 d rd s s2 b o) (hD : Dk W1 S' d s') (k : Step S S' W W1) : P8 w0 W1 S' S2 d rd s' s2 b o :=
 ⟨h.pd.prog hD k, h.blk.step k h.n1, fun hm => by rcases k.fresh b hm with h1 | h1; exact h.n1 h1; have := h.blk.lt; omega, h.n2⟩
theorem P8.ref (h : P8 w0 W S S2 d rd s s2 b o) (hR : Rf W1 S2' rd s2') (k : Step S2 S2' W W1) : P8 w0 W1 S S2' d rd s s2' b o :=
 ⟨h.pd.ref hR k, h.blk.step k h.n2, h.n1, fun hm => by rcases k.fresh b hm with h1 | h1; exact h.n2 h1; have := h.blk.lt; omega⟩
theorem P8.keep (h : P8 w0 W S S2 d rd s s2 b o) {T : List Nat} (k : Step [] T W W1) : P8 w0 W1 S S2 d rd s s2 b o :=
 ⟨h.pd.keep k, h.blk.step k (by simp), h.n1, h.n2⟩
theorem Pd.box8 (h : Pd w0 W S S2 d rd s s2) (o : Ov) : P8 w0 (W.alloc (.cells (opv o).toArray 36)) S S2 d rd s s2 W.heap.size o :=
 ⟨h.keep ((Step.refl [] W).alloc _), Blk.new W _ _, fun hm => by have := h.dk.lt _ hm; omega, fun hm => by have := h.rf.lt _ hm; omega⟩
end
theorem Pd.stp {w0 W : World} {S S2 : List Nat} {d rd : Nat} {s s2 : St} (h : Pd w0 W S S2 d rd s s2) : Step [] S w0 W := h.st.drop (by intro k hk; simp [hk])
def Pl8 (w : World) (d rd k : Nat) (W : World) : Prop := ∃ S S2 s, Pd w W S S2 d rd s s ∧ Ok6 s k
/-- Both disks, both snapshots that were told. -/
structure Q8 (w0 W : World) (S S2 : List Nat) (d rd : Nat) (a : Option Addr) (cap : Nat) (s : St) (xb yb : Nat) (z : Sn) : Prop where
 pd : Pd w0 W S S2 d rd s s
 rf : Rfm W S2 rd a cap s
 px : Blk W xb 33 (snc z).toArray
 py : Blk W yb 33 (snc z).toArray
theorem Q8.quiet {w0 W W1 : World} {S S2 T : List Nat} {d rd cap xb yb : Nat} {a : Option Addr} {s : St} {z : Sn} (h : Q8 w0 W S S2 d rd a cap s xb yb z) (k : Step [] T W W1) : Q8 w0 W1 S S2 d rd a cap s xb yb z :=
 ⟨h.pd.keep k, h.rf.step k (by simp), h.px.step k (by simp), h.py.step k (by simp)⟩
theorem Pd.offc {w0 W : World} {S S2 : List Nat} {d rd : Nat} {s : St} (h : Pd w0 W S S2 d rd s s) : W.cell? ⟨rd, 3, none⟩ = some (.bool s.off) ∧ rd < W.heap.size := by
 obtain ⟨a, cap, h1⟩ := h.rf
 have c3 := h1.blk.cell 3
 simp only [List.getElem?_toArray, List.getElem?_cons_zero, List.getElem?_cons_succ] at c3
 exact ⟨c3, h1.blk.lt⟩
set_option maxHeartbeats 8000000 in
theorem plays08_any (l : List Ov) (a : Option Addr) (cap : Nat) (w : World) (hT : PTab w) (hU : Tabs w) (hr : Rd w 8 a l.length (l.flatMap opv)) (hq : ∀ o ∈ l, OvB w o) (hl : l.length ≤ 4611686018427387904) : Calls Tryz.prog 3 #[.slice a l.length cap] w fun e w' => e = .returned (.bool true) ∧ Step [] [] w w' := by
 have HT := Lib.hid (And.intro hT hU)
 have HRD := Lib.hid hr
 have HQ := Lib.hid hq
 clear hT hU hr hq
 go_enter Tryz.func3, Tryz.ntmps3
 go_wp2_with fail
 refine (awake08_true w HT.out.1 HT.out.2).mono ?_
 rintro e w1 ⟨rfl, st1⟩
 have H1 := Lib.hid st1
 clear st1
 go_wp2_with fail
 refine (great08_any l a cap w1 (HRD.out.step0 H1.out) hl).mono ?_
 rintro e w1' ⟨gb, rfl, hgb, rfl⟩
 cases gb with
 | true =>
  go_wp2_with fail
  exact bodyPost_ret (results_tmp rfl _ _ _) rfl ⟨rfl, H1.out⟩
 | false =>
 have HG := Lib.hid (hgb rfl)
 clear hgb
 go_wp2_with fail
 refine (snew_ok 300000 w1 (by decide)).mono ?_
 rintro e w2 ⟨S, d, rfl, hd, st2⟩
 have H2 : Hid (Dk w2 S d (newS 300000) ∧ Step [] S w w2) := Lib.hid ⟨hd, H1.out.trans st2⟩
 clear hd st2 H1
 go_wp2_with fail
 refine (rnew_any 300000 w2).mono ?_
 rintro e w3 ⟨rfl, hR3, st3⟩
 have H3 : Hid (Pd w w3 S [w2.heap.size] d w2.heap.size (newS 300000) (newS 300000)) := Lib.hid ⟨H2.out.1.keep st3, hR3, fun x hx hm => by simp at hm; have := H2.out.1.lt x hx; omega, H2.out.2.trans (st3.wide (T := S) (by simp) (by intro j hj; rcases List.mem_append.1 hj with hj | hj; exact .inl hj; exact .inr (.inl hj)))⟩
 obtain ⟨rd, hrd⟩ : ∃ rd, rd = w2.heap.size := ⟨_, rfl⟩
 rw [← hrd] at H3 ⊢
 clear hR3 st3 hrd H2
 obtain ⟨N, hN⟩ : ∃ N, N = l.length := ⟨_, rfl⟩
 rw [← hN] at hl ⊢
 have HN := Lib.hid hN
 have hN2 : N ≤ 40 := by rw [hN]; exact HG.out.1
 clear hN
 have HI0 : Hid (Pl8 w d rd 0 w3) := Lib.hid ⟨_, _, _, H3.out, ok_new (by decide)⟩
 clear H3
 go_wp2_with fail
 go_loopw [29] (fun i W => ∃ k : Nat, i = .int .i64 k ∧ k ≤ N ∧ Hid (Pl8 w d rd k W)) (fun i _ => N - (intOf i).toNat)
 case atStart => exact ⟨0, rfl, by omega, HI0⟩
 case round =>
  rename World => W
  obtain ⟨k, rfl, hkN, HW⟩ := hrel
  obtain ⟨S, S2, s, hP, hO⟩ := HW.out
  have HPO := Lib.hid (And.intro hP hO)
  clear hP hO HW HI0
  by_cases hlt : k < N
  ·have hlt' : (k : Int) < N := by omega
   obtain ⟨o, ho⟩ : ∃ o, l[k]? = some o := ⟨_, List.getElem?_eq_getElem (by rw [← HN.out]; exact hlt)⟩
   obtain ⟨g, off, hs1⟩ := HRD.out.some_ (by rw [← HN.out]; omega)
   have hr2 := HPO.out.1.rdK HRD.out
   rw [hs1] at hr2
   have z0 := rd_fl opv 8 opv_len hr2 ho 0 (by omega) _ rfl
   have z1 := rd_fl opv 8 opv_len hr2 ho 1 (by omega) _ rfl
   have z2 := rd_fl opv 8 opv_len hr2 ho 2 (by omega) _ rfl
   have z3 := rd_fl opv 8 opv_len hr2 ho 3 (by omega) _ rfl
   have z4 := rd_fl opv 8 opv_len hr2 ho 4 (by omega) _ rfl
   have z5 := rd_fl opv 8 opv_len hr2 ho 5 (by omega) _ rfl
   have z6 := rd_fl opv 8 opv_len hr2 ho 6 (by omega) _ rfl
   have z7 := rd_fl opv 8 opv_len hr2 ho 7 (by omega) _ rfl
   simp only [Nat.add_zero] at z0
   have gl : g < W.heap.size := by have := World.block_lt_of_cell? _ _ z3; simpa using this
   have HK : Hid (OvB w o) := Lib.hid (HQ.out o (List.mem_of_getElem? ho))
   have HGO := HG
   have HG : Hid (GrB o) := Lib.hid (HGO.out.2 o (List.mem_of_getElem? ho))
   rw [hs1]
   clear hr2 hs1 ho
   go_upto_region 10 with fail
   have HP0 := Lib.hid (HPO.out.1.box8 o)
   have HO := Lib.hid HPO.out.2
   have HR := Lib.hid HPO.out.1.dk.ris
   obtain ⟨b, hb⟩ : ∃ b, b = W.heap.size := ⟨_, rfl⟩
   obtain ⟨V, hV⟩ : ∃ V, V = W.alloc (.cells (opv o).toArray 36) := ⟨_, rfl⟩
   have HP : Hid (P8 w V S S2 d rd s s b o) := by rw [hV, hb]; exact HP0
   change Code.wp _ _ _ _ (W.alloc (.cells (opv o).toArray 36))
   rw [← hV]
   try rw [← hb]
   clear hV hb HP0 HPO z0 z1 z2 z3 z4 z5 z6 z7 gl
   have b0 := HP.out.blk.cell 0
   simp only [opv, List.getElem?_toArray, List.getElem?_cons_zero] at b0
   go_upto_block 2 with fail
   clear b0
   go_cut [] (fun wx => Hid (∃ S S2 s, Pd w wx S S2 d rd s s ∧ Ok6 s (k + 1)))
   case first =>
    cases h0 : (o.k == 0) with
    | true =>
     go_upto_region 12 with fail
     have PD := Lib.hid (HP.out.keep (Step.refl [] V).drew)
     refine wp_region_held_drew (S := fun U => Hid (Blk U b 36 (opv o).toArray)) (by kernel_rfl) (Lib.hid PD.out.blk) (fun hHeld => ?_)
     refine wpAnyH_take (i := 0) (v := ?_) rfl (by kernel_rfl) (by kernel_rfl) (by kernel_rfl) (fun _ _ _ h => h) (Or.inl ⟨by rfl, ?_⟩) hHeld ?_
     rotate_left
     ·intro w hSw1
      try dsimp only at hSw1
      go_simp
      try (with_reducible rfl)
     try simp only [Act.put, LsA, LsB, LsC, LsD, LsE, LsF]
     refine wpAnyH_take (i := 1) (v := ?_) rfl (by kernel_rfl) (by kernel_rfl) (by kernel_rfl) (fun _ _ _ h => h) (Or.inl ⟨by rfl, ?_⟩) hHeld ?_
     rotate_left
     ·intro w hSw1
      have t1 := hSw1.out.cell 1
      have t2 := hSw1.out.cell 2
      have t3 := hSw1.out.cell 3
      have tl := hSw1.out.lt
      simp only [opv, List.getElem?_toArray, List.getElem?_cons_zero, List.getElem?_cons_succ] at t1 t2 t3
      go_simp
      try (with_reducible rfl)
     try simp only [Act.put, LsA, LsB, LsC, LsD, LsE, LsF]
     refine wpAnyH_take (i := 2) (v := ?_) rfl (by kernel_rfl) (by kernel_rfl) (by kernel_rfl) (fun _ _ _ h => h) (Or.inl ⟨by rfl, ?_⟩) hHeld ?_
     rotate_left
     ·intro w hSw1
      have t1 := hSw1.out.cell 1
      have t2 := hSw1.out.cell 2
      have t3 := hSw1.out.cell 3
      have tl := hSw1.out.lt
      simp only [opv, List.getElem?_toArray, List.getElem?_cons_zero, List.getElem?_cons_succ] at t1 t2 t3
      go_simp
      try (with_reducible rfl)
     try simp only [Act.put, LsA, LsB, LsC, LsD, LsE, LsF]
     refine wpAnyH_take (i := 4) (v := ?_) rfl (by kernel_rfl) (by kernel_rfl) (by kernel_rfl) (fun _ _ _ h => h) (Or.inl ⟨by rfl, ?_⟩) hHeld ?_
     rotate_left
     ·intro w hSw1
      try dsimp only at hSw1
      go_simp
      try (with_reducible rfl)
     try simp only [Act.put, LsA, LsB, LsC, LsD, LsE, LsF]
     refine wpAnyH_take (i := 5) (v := ?_) rfl (by kernel_rfl) (by kernel_rfl) (by kernel_rfl) (fun _ _ _ h => h) (Or.inl ⟨by rfl, ?_⟩) hHeld ?_
     rotate_left
     ·intro w hSw1
      have t1 := hSw1.out.cell 1
      have t2 := hSw1.out.cell 2
      have t3 := hSw1.out.cell 3
      have tl := hSw1.out.lt
      simp only [opv, List.getElem?_toArray, List.getElem?_cons_zero, List.getElem?_cons_succ] at t1 t2 t3
      go_simp
      try (with_reducible rfl)
     try simp only [Act.put, LsA, LsB, LsC, LsD, LsE, LsF]
     refine wpAnyH_take (i := 6) (v := ?_) rfl (by kernel_rfl) (by kernel_rfl) (by kernel_rfl) (fun _ _ _ h => h) (Or.inl ⟨by rfl, ?_⟩) hHeld ?_
     rotate_left
     ·intro w hSw1
      have t1 := hSw1.out.cell 1
      have t2 := hSw1.out.cell 2
      have t3 := hSw1.out.cell 3
      have tl := hSw1.out.lt
      simp only [opv, List.getElem?_toArray, List.getElem?_cons_zero, List.getElem?_cons_succ] at t1 t2 t3
      go_simp
      try (with_reducible rfl)
     try simp only [Act.put, LsA, LsB, LsC, LsD, LsE, LsF]
     refine wpAnyH_ready (rs := [3]) (by kernel_rfl) (by simp) ?_
     refine AllReadyH.cons rfl (fun K hK => ?_) AllReadyH.nil
     go_simp
     refine (save_any o.x _ S d s PD.out.pd.dk k HO.out (by omega) w HT.out.1 HT.out.2 PD.out.pd.stp (by have := HG.out.1; omega)).mono ?_; rintro e w2 ⟨rfl, S1, hD1, st1⟩; have P1 := Lib.hid (PD.out.prog hD1 st1); clear hD1 st1
     go_wp2_with fail
     refine hK.out _ _ (Lib.hid P1.out.blk) (fun hHeld2 => ?_)
     clear hK K hHeld
     try simp only [Act.put, LsA, LsB, LsC, LsD, LsE, LsF]
     refine wpAnyH_ready (rs := [7]) (by kernel_rfl) (by simp) ?_
     refine AllReadyH.cons rfl (fun K hK => ?_) AllReadyH.nil
     go_simp
     refine (rsave_any o.x _ S2 rd s P1.out.pd.rf k HO.out (by omega) HR.out (by have := HG.out.1; omega)).mono ?_; rintro e w3 ⟨rfl, S3, hR3, st3⟩; have P2 := Lib.hid (P1.out.ref hR3 st3); clear hR3 st3
     go_wp2_with fail
     refine hK.out _ _ (Lib.hid P2.out.blk) (fun hHeld3 => ?_)
     clear hK K hHeld2
     try simp only [Act.put, LsA, LsB, LsC, LsD, LsE, LsF]
     refine wpAnyH_take (i := 8) (v := ?_) rfl (by kernel_rfl) (by kernel_rfl) (by kernel_rfl) (fun _ _ _ h => h) (Or.inl ⟨by rfl, ?_⟩) hHeld3 ?_
     rotate_left
     ·intro w hSw1
      try dsimp only at hSw1
      go_simp
      try (with_reducible rfl)
     try simp only [Act.put, LsA, LsB, LsC, LsD, LsE, LsF]
     refine wpAnyH_done (by kernel_rfl) ?_ _
     go_wp2_with fail
     go_meet
     exact ⟨_, _, _, P2.out.pd, ok_save HO.out HR.out o.x (by omega)⟩
    | false =>
     cases h1 : (o.k == 1) with
     | true =>
      go_wp2_with fail
      refine (clean_any V S d s HP.out.pd.dk k HO.out w HT.out.1 HP.out.pd.stp).mono ?_
      rintro e w2 ⟨rfl, S1, hD1, st1⟩
      have P1 := Lib.hid (HP.out.prog hD1 st1)
      clear hD1 st1
      go_wp2_with fail
      refine (rclean_any w2 S2 rd s P1.out.pd.rf k HO.out HR.out).mono ?_
      rintro e w3 ⟨rfl, S3, hR3, st3⟩
      have P2 := Lib.hid (P1.out.ref hR3 st3)
      clear hR3 st3
      go_wp2_with fail
      go_meet
      exact ⟨_, _, _, P2.out.pd, ok_more (ok_clean HO.out)⟩
     | false =>
      cases h2 : (o.k == 2) with
      | true =>
       have b7 := HP.out.blk.cell 7
       simp only [opv, List.getElem?_toArray, List.getElem?_cons_zero, List.getElem?_cons_succ] at b7
       have bl := HP.out.blk.lt
       go_wp2_with fail
       refine (crash_any o.ks V S d s o.ka o.kc HP.out.pd.dk HO.out.b (HP.out.pd.rdK HK.out.rd) (fun hp g hg => (HP.out.pd.low (rd_low HK.out.rd hp g hg)).1) ⟨HK.out.ks, HO.out.nm⟩).mono ?_
       rintro e w2 ⟨rfl, hD1, st1⟩
       have P1 := Lib.hid (HP.out.prog hD1 st1)
       clear hD1 st1 b7 bl
       have q7 := P1.out.blk.cell 7
       simp only [opv, List.getElem?_toArray, List.getElem?_cons_zero, List.getElem?_cons_succ] at q7
       have ql := P1.out.blk.lt
       go_wp2_with fail
       refine (rcrash_any o.ks w2 S2 rd s o.ka o.kc P1.out.pd.rf HO.out.b (P1.out.pd.rdK HK.out.rd) HK.out.ks).mono ?_
       rintro e w3 ⟨rfl, S3, hR3, st3⟩
       have P2 := Lib.hid (P1.out.ref hR3 st3)
       clear hR3 st3 q7 ql
       go_wp2_with fail
       go_meet
       exact ⟨_, _, _, P2.out.pd, ok_more (ok_crash HO.out o.ks)⟩
      | false =>
       cases h3 : (o.k == 3) with
       | true =>
        have b6 := HP.out.blk.cell 6
        simp only [opv, List.getElem?_toArray, List.getElem?_cons_zero, List.getElem?_cons_succ] at b6
        have bl := HP.out.blk.lt
        go_wp2_with fail
        refine (fuse_any o.m V S d s HP.out.pd.dk).mono ?_
        rintro e w2 ⟨rfl, hD1, st1⟩
        have P1 := Lib.hid (HP.out.prog hD1 st1)
        clear hD1 st1 b6 bl
        have q6 := P1.out.blk.cell 6
        simp only [opv, List.getElem?_toArray, List.getElem?_cons_zero, List.getElem?_cons_succ] at q6
        have ql := P1.out.blk.lt
        obtain ⟨a, cap, hR⟩ := P1.out.pd.rf
        have r2 := hR.blk.cell 2
        simp only [List.getElem?_toArray, List.getElem?_cons_zero, List.getElem?_cons_succ] at r2
        have rf2 := hR.blk.frozen 2
        have rl := hR.blk.lt
        have HRM := Lib.hid hR
        clear hR
        have hkk : Step [rd] [rd] w2 (w2.setCell ⟨rd, 2, none⟩ (.int .i64 (max o.m (-1)))) := (Step.refl [rd] w2).setCell (p := ⟨rd, 2, none⟩) (.inl (by simp)) _
        have hR2 := HRM.out.head (s' := fuseS s o.m) hkk rfl (by have := HRM.out.blk.set 2 (.int .i64 (max o.m (-1))); simpa [fuseS] using this)
        have P2 := Lib.hid (P1.out.ref ⟨a, cap, hR2⟩ (hkk.wide (T := S2) (by intro j hj; simp only [List.mem_singleton] at hj; rw [hj]; exact HRM.out.memd) (by intro j hj; exact .inl hj)))
        clear hkk hR2
        go_wp2_with fail
        go_meet
        exact ⟨_, _, _, P2.out.pd, ok_more (ok_fuse HO.out o.m HK.out.m.2)⟩
       | false =>
        cases h4 : (o.k == 4) with
        | true =>
         have b6 := HP.out.blk.cell 6
         simp only [opv, List.getElem?_toArray, List.getElem?_cons_zero, List.getElem?_cons_succ] at b6
         have bl := HP.out.blk.lt
         obtain ⟨rm, hrm⟩ : ∃ rm, rm = min (max o.m 0) 300000 := ⟨_, rfl⟩
         have hok : okRoom rm = true := by rw [hrm]; simp [okRoom]; omega
         have HOK := Lib.hid hok
         go_upto_region 25 with fail
         try rw [← hrm]
         clear hrm b6 bl
         go_wp2_with fail
         refine (room_any rm V S d s HP.out.pd.dk).mono ?_
         rintro e w2 ⟨rfl, S1, hD1, st1⟩
         have P1 := Lib.hid (HP.out.prog hD1 st1)
         clear hD1 st1 hok
         obtain ⟨a, cap, hR⟩ := P1.out.pd.rf
         have r2 := hR.blk.cell 1
         simp only [List.getElem?_toArray, List.getElem?_cons_zero, List.getElem?_cons_succ] at r2
         have rf2 := hR.blk.frozen 1
         have rl := hR.blk.lt
         have HRM := Lib.hid hR
         clear hR
         have hkk : Step [rd] [rd] w2 (w2.setCell ⟨rd, 1, none⟩ (.int .i64 rm)) := (Step.refl [rd] w2).setCell (p := ⟨rd, 1, none⟩) (.inl (by simp)) _
         have hR2 := HRM.out.head (s' := (roomS s rm).2) hkk (by simp only [roomS, HOK.out, if_true]) (by have := HRM.out.blk.set 1 (.int .i64 rm); simpa [roomS, HOK.out] using this)
         have P2 := Lib.hid (P1.out.ref ⟨a, cap, hR2⟩ (hkk.wide (T := S2) (by intro j hj; simp only [List.mem_singleton] at hj; rw [hj]; exact HRM.out.memd) (by intro j hj; exact .inl hj)))
         clear hkk hR2
         go_wp2_with fail
         go_meet
         exact ⟨_, _, _, P2.out.pd, ok_more (ok_room HO.out rm)⟩
        | false =>
         cases h5 : (o.k == 5) with
         | true =>
          have b4 := HP.out.blk.cell 4
          have b5 := HP.out.blk.cell 5
          simp only [opv, List.getElem?_toArray, List.getElem?_cons_zero, List.getElem?_cons_succ] at b4 b5
          have bl := HP.out.blk.lt
          go_wp2_with fail
          refine (append_any o.n o.s V S d s HP.out.pd.dk HO.out.b (HT.out.2.step HP.out.pd.st) ⟨(by have := HG.out.2.2; omega), by have := HG.out.2.1; omega⟩).mono ?_
          rintro e w2 ⟨rfl, S1, hD1, st1⟩
          have P1 := Lib.hid (HP.out.prog hD1 st1)
          clear hD1 st1 bl b4 b5
          have q4 := P1.out.blk.cell 4
          have q5 := P1.out.blk.cell 5
          simp only [opv, List.getElem?_toArray, List.getElem?_cons_zero, List.getElem?_cons_succ] at q4 q5
          have ql := P1.out.blk.lt
          go_wp2_with fail
          refine (rappend_any o.n o.s w2 S2 rd s P1.out.pd.rf HO.out.b HR.out ⟨(by have := HG.out.2.2; omega), by have := HG.out.2.1; omega⟩).mono ?_
          rintro e w3 ⟨rfl, S3, hR3, st3⟩
          have P2 := Lib.hid (P1.out.ref hR3 st3)
          clear hR3 st3 ql q4 q5
          go_wp2_with fail
          go_meet
          exact ⟨_, _, _, P2.out.pd, ok_append HO.out HR.out o.n o.s (by have := HG.out.2.2; omega) (by omega)⟩
         | false =>
          cases h6 : (o.k == 6) with
          | true =>
           have b4 := HP.out.blk.cell 4
           have b6 := HP.out.blk.cell 6
           simp only [opv, List.getElem?_toArray, List.getElem?_cons_zero, List.getElem?_cons_succ] at b4 b6
           have bl := HP.out.blk.lt
           go_wp2_with fail
           refine (dcut_any o.n o.m V S d s HP.out.pd.dk HO.out.b (by have := HG.out.2.2; omega)).mono ?_
           rintro e w2 ⟨rfl, S1, hD1, st1⟩
           have P1 := Lib.hid (HP.out.prog hD1 st1)
           clear hD1 st1 bl b4 b6
           have q4 := P1.out.blk.cell 4
           have q6 := P1.out.blk.cell 6
           simp only [opv, List.getElem?_toArray, List.getElem?_cons_zero, List.getElem?_cons_succ] at q4 q6
           have ql := P1.out.blk.lt
           go_wp2_with fail
           refine (rcut_any o.n o.m w2 S2 rd s P1.out.pd.rf HO.out.b HR.out).mono ?_
           rintro e w3 ⟨rfl, S3, hR3, st3⟩
           have P2 := Lib.hid (P1.out.ref hR3 st3)
           clear hR3 st3 ql q4 q6
           go_wp2_with fail
           go_meet
           exact ⟨_, _, _, P2.out.pd, ok_more (ok_cut HO.out o.n o.m)⟩
          | false =>
           have P2 := HP
           go_wp2_with fail
           go_meet
           exact ⟨_, _, _, P2.out.pd, ok_more HO.out⟩
   case rest =>
    rename World => V0
    obtain ⟨S, S2, s, hP, hO⟩ := hcut.out
    have HP := Lib.hid hP
    have HO := Lib.hid hO
    clear hP hO hcut
    go_wp2_with fail
    have hc := load_any V0 S d s HP.out.dk (k + 1) HO.out (HT.out.1.step HP.out.st)
    cases hof : s.off with
    | true =>
     rw [show loadR s = (sn0, false, 7) by unfold loadR; rw [hof]; rfl] at hc
     refine hc.mono ?_
     rintro e w4 ⟨rfl, st4⟩
     have H4 := Lib.hid (HP.out.keep st4)
     clear hc st4
     go_upto_region 34 with fail
     obtain ⟨xb, hxb⟩ : ∃ xb, xb = w4.heap.size := ⟨_, rfl⟩
     obtain ⟨V, hV⟩ : ∃ V, V = w4.alloc (.cells (snc sn0).toArray 33) := ⟨_, rfl⟩
     have H5 : Hid (Pd w V S S2 d rd s s ∧ Blk V xb 33 (snc sn0).toArray) := by
      subst hV hxb
      exact ⟨H4.out.keep ((Step.refl [] w4).alloc _), Blk.new w4 _ _⟩
     change Code.wp _ _ _ _ (w4.alloc (.cells (snc sn0).toArray 33))
     rw [← hV]
     try rw [← hxb]
     clear hV hxb H4
     obtain ⟨c3, dl⟩ := H5.out.1.offc
     rw [hof] at c3
     have cc := H5.out.2.cell
     have f0 := cc 0
     have f1 := cc 1
     have f2 := cc 2
     clear cc
     simp only [snc, List.getElem?_toArray, List.getElem?_cons_zero, List.getElem?_cons_succ] at f0 f1 f2
     have HFI : Hid (Pl8 w d rd (k + 1) V) := Lib.hid ⟨S, S2, s, H5.out.1, HO.out⟩
     clear hof
     go_wp2_with fail
     go_roundw
     case rel => exact ⟨k + 1, by go_num, by omega, HFI⟩
     case measure => simp [intOf]; omega
    | false =>
     have HOF := Lib.hid hof
     obtain ⟨z, hz⟩ : ∃ z, z = (loadS s).1 := ⟨_, rfl⟩
     obtain ⟨ok, hok⟩ : ∃ ok, ok = (loadS s).2 := ⟨_, rfl⟩
     rw [show loadR s = (z, ok, 0) by unfold loadR; rw [hof, hz, hok]; rfl] at hc
     have HL : Hid (loadS s = (z, ok)) := Lib.hid (by rw [hz, hok])
     clear hz hok
     refine hc.mono ?_
     rintro e w4 ⟨rfl, st4⟩
     have H4 := Lib.hid (HP.out.keep st4)
     clear hc st4
     go_upto_region 34 with fail
     obtain ⟨xb, hxb⟩ : ∃ xb, xb = w4.heap.size := ⟨_, rfl⟩
     obtain ⟨V, hV⟩ : ∃ V, V = w4.alloc (.cells (snc z).toArray 33) := ⟨_, rfl⟩
     have H5 : Hid (Pd w V S S2 d rd s s ∧ Blk V xb 33 (snc z).toArray) := by
      subst hV hxb
      exact ⟨H4.out.keep ((Step.refl [] w4).alloc _), Blk.new w4 _ _⟩
     change Code.wp _ _ _ _ (w4.alloc (.cells (snc z).toArray 33))
     rw [← hV]
     try rw [← hxb]
     clear hV hxb H4
     obtain ⟨c3, dl⟩ := H5.out.1.offc
     rw [hof] at c3
     clear hof
     go_wp2_with fail
     have hc := rload_any V S2 rd s H5.out.1.rf (k + 1) HO.out H5.out.1.dk.ris HOF.out
     rw [HL.out] at hc
     refine hc.mono ?_
     rintro e w5 ⟨rfl, st5⟩
     have H6 : Hid (Pd w w5 S S2 d rd s s ∧ Blk w5 xb 33 (snc z).toArray) := Lib.hid ⟨H5.out.1.keep st5, H5.out.2.step st5 (by simp)⟩
     clear hc st5 H5 c3 dl
     go_upto_region 38 with fail
     obtain ⟨yb, hyb⟩ : ∃ yb, yb = w5.heap.size := ⟨_, rfl⟩
     obtain ⟨V, hV⟩ : ∃ V, V = w5.alloc (.cells (snc z).toArray 33) := ⟨_, rfl⟩
     obtain ⟨a, cap, hrf⟩ := H6.out.1.rf
     have HQ8 : Hid (Q8 w V S S2 d rd a cap s xb yb z) := by
      subst hV hyb
      exact ⟨H6.out.1.keep ((Step.refl [] w5).alloc _), hrf.step ((Step.refl [] w5).alloc _) (by simp), H6.out.2.alloc _, Blk.new w5 _ _⟩
     change Code.wp _ _ _ _ (w5.alloc (.cells (snc z).toArray 33))
     rw [← hV]
     try rw [← hyb]
     clear hV hyb H6 hrf
     have HNL : Hid ((namesS s).length = s.E.length) := Lib.hid (by unfold namesS; rw [HOF.out]; simp)
     have HUS : Hid (usedS s = usedE s.E) := Lib.hid (by unfold usedS; rw [HOF.out]; rfl)
     go_upto_region 38 with fail
     have HQD := Lib.hid (HQ8.out.quiet (Step.refl [] V).drew)
     refine wp_region_held_drew (S := fun W => Hid (Q8 w W S S2 d rd a cap s xb yb z)) (by kernel_rfl) (HQD) (fun hHeld => ?_)
     refine wpAnyH_take (i := 0) (v := ?_) rfl (by kernel_rfl) (by kernel_rfl) (by kernel_rfl) (fun _ _ _ h => h) (Or.inl ⟨by rfl, ?_⟩) hHeld ?_
     rotate_left
     ·intro w hSw1
      have cc := hSw1.out.px.cell
      have g0 := cc 0
      have g1 := cc 1
      have g2 := cc 2
      clear cc
      simp only [snc, List.getElem?_toArray, List.getElem?_cons_zero, List.getElem?_cons_succ] at g0 g1 g2
      go_simp
      try (with_reducible rfl)
     try simp only [Act.put, LsA, LsB, LsC, LsD, LsE, LsF]
     refine wpAnyH_take (i := 1) (v := ?_) rfl (by kernel_rfl) (by kernel_rfl) (by kernel_rfl) (fun _ _ _ h => h) (Or.inl ⟨by rfl, ?_⟩) hHeld ?_
     rotate_left
     ·intro w hSw1
      have cc := hSw1.out.py.cell
      have g0 := cc 0
      have g1 := cc 1
      have g2 := cc 2
      clear cc
      simp only [snc, List.getElem?_toArray, List.getElem?_cons_zero, List.getElem?_cons_succ] at g0 g1 g2
      go_simp
      try (with_reducible rfl)
     try simp only [Act.put, LsA, LsB, LsC, LsD, LsE, LsF]
     refine wpAnyH_take (i := 2) (v := ?_) rfl (by kernel_rfl) (by kernel_rfl) (by kernel_rfl) (fun _ _ _ h => h) (Or.inl ⟨by rfl, ?_⟩) hHeld ?_
     rotate_left
     ·intro w hSw1
      try dsimp only at hSw1
      go_simp
      try (with_reducible rfl)
     try simp only [Act.put, LsA, LsB, LsC, LsD, LsE, LsF]
     refine wpAnyH_take (i := 3) (v := ?_) rfl (by kernel_rfl) (by kernel_rfl) (by kernel_rfl) (fun _ _ _ h => h) (Or.inl ⟨by rfl, ?_⟩) hHeld ?_
     rotate_left
     ·intro w hSw1
      try dsimp only at hSw1
      go_simp
      try (with_reducible rfl)
     try simp only [Act.put, LsA, LsB, LsC, LsD, LsE, LsF]
     refine wpAnyH_take (i := 4) (v := ?_) rfl (by kernel_rfl) (by kernel_rfl) (by kernel_rfl) (fun _ _ _ h => h) (Or.inl ⟨by rfl, ?_⟩) hHeld ?_
     rotate_left
     ·intro w hSw1
      try dsimp only at hSw1
      go_simp
      try (with_reducible rfl)
     try simp only [Act.put, LsA, LsB, LsC, LsD, LsE, LsF]
     refine wpAnyH_take (i := 5) (v := ?_) rfl (by kernel_rfl) (by kernel_rfl) (by kernel_rfl) (fun _ _ _ h => h) (Or.inl ⟨by rfl, ?_⟩) hHeld ?_
     rotate_left
     ·intro w hSw1
      try dsimp only at hSw1
      go_simp
      try (with_reducible rfl)
     try simp only [Act.put, LsA, LsB, LsC, LsD, LsE, LsF]
     refine wpAnyH_take (i := 6) (v := ?_) rfl (by kernel_rfl) (by kernel_rfl) (by kernel_rfl) (fun _ _ _ h => h) (Or.inl ⟨by rfl, ?_⟩) hHeld ?_
     rotate_left
     ·intro w hSw1
      try dsimp only at hSw1
      go_simp
      try (with_reducible rfl)
     try simp only [Act.put, LsA, LsB, LsC, LsD, LsE, LsF]
     refine wpAnyH_take (i := 7) (v := ?_) rfl (by kernel_rfl) (by kernel_rfl) (by kernel_rfl) (fun _ _ _ h => h) (Or.inl ⟨by rfl, ?_⟩) hHeld ?_
     rotate_left
     ·intro w hSw1
      try dsimp only at hSw1
      go_simp
      try (with_reducible rfl)
     try simp only [Act.put, LsA, LsB, LsC, LsD, LsE, LsF]
     refine wpAnyH_take (i := 8) (v := ?_) rfl (by kernel_rfl) (by kernel_rfl) (by kernel_rfl) (fun _ _ _ h => h) (Or.inl ⟨by rfl, ?_⟩) hHeld ?_
     rotate_left
     ·intro w hSw1
      try dsimp only at hSw1
      go_simp
      try (with_reducible rfl)
     try simp only [Act.put, LsA, LsB, LsC, LsD, LsE, LsF]
     refine wpAnyH_take (i := 9) (v := ?_) rfl (by kernel_rfl) (by kernel_rfl) (by kernel_rfl) (fun _ _ _ h => h) (Or.inl ⟨by rfl, ?_⟩) hHeld ?_
     rotate_left
     ·intro w hSw1
      try dsimp only at hSw1
      go_simp
      try (with_reducible rfl)
     try simp only [Act.put, LsA, LsB, LsC, LsD, LsE, LsF]
     refine wpAnyH_take (i := 10) (v := ?_) rfl (by kernel_rfl) (by kernel_rfl) (by kernel_rfl) (fun _ _ _ h => h) (Or.inl ⟨by rfl, ?_⟩) hHeld ?_
     rotate_left
     ·intro w hSw1
      try dsimp only at hSw1
      go_simp
      try (with_reducible rfl)
     try simp only [Act.put, LsA, LsB, LsC, LsD, LsE, LsF]
     refine wpAnyH_take (i := 11) (v := ?_) rfl (by kernel_rfl) (by kernel_rfl) (by kernel_rfl) (fun _ _ _ h => h) (Or.inl ⟨by rfl, ?_⟩) hHeld ?_
     rotate_left
     ·intro w hSw1
      try dsimp only at hSw1
      go_simp
      try (with_reducible rfl)
     try simp only [Act.put, LsA, LsB, LsC, LsD, LsE, LsF]
     refine wpAnyH_take (i := 12) (v := ?_) rfl (by kernel_rfl) (by kernel_rfl) (by kernel_rfl) (fun _ _ _ h => h) (Or.inl ⟨by rfl, ?_⟩) hHeld ?_
     rotate_left
     ·intro w hSw1
      try dsimp only at hSw1
      go_simp
      try (with_reducible rfl)
     try simp only [Act.put, LsA, LsB, LsC, LsD, LsE, LsF]
     refine wpAnyH_take (i := 13) (v := ?_) rfl (by kernel_rfl) (by kernel_rfl) (by kernel_rfl) (fun _ _ _ h => h) (Or.inl ⟨by rfl, ?_⟩) hHeld ?_
     rotate_left
     ·intro w hSw1
      try dsimp only at hSw1
      go_simp
      try (with_reducible rfl)
     try simp only [Act.put, LsA, LsB, LsC, LsD, LsE, LsF]
     refine wpAnyH_take (i := 16) (v := ?_) rfl (by kernel_rfl) (by kernel_rfl) (by kernel_rfl) (fun _ _ _ h => h) (Or.inl ⟨by rfl, ?_⟩) hHeld ?_
     rotate_left
     ·intro w hSw1
      try dsimp only at hSw1
      go_simp
      try (with_reducible rfl)
     try simp only [Act.put, LsA, LsB, LsC, LsD, LsE, LsF]
     refine wpAnyH_take (i := 17) (v := ?_) rfl (by kernel_rfl) (by kernel_rfl) (by kernel_rfl) (fun _ _ _ h => h) (Or.inl ⟨by rfl, ?_⟩) hHeld ?_
     rotate_left
     ·intro w hSw1
      have dl := hSw1.out.rf.blk.lt
      have z0 := hSw1.out.rf.blk.cell 0
      simp only [List.getElem?_toArray, List.getElem?_cons_zero, List.getElem?_cons_succ] at z0
      go_simp
      try (with_reducible rfl)
     try simp only [Act.put, LsA, LsB, LsC, LsD, LsE, LsF]
     refine wpAnyH_take (i := 18) (v := ?_) rfl (by kernel_rfl) (by kernel_rfl) (by kernel_rfl) (fun _ _ _ h => h) (Or.inl ⟨by rfl, ?_⟩) hHeld ?_
     rotate_left
     ·intro w hSw1
      have dl := hSw1.out.rf.blk.lt
      have z0 := hSw1.out.rf.blk.cell 0
      simp only [List.getElem?_toArray, List.getElem?_cons_zero, List.getElem?_cons_succ] at z0
      go_simp
      try (with_reducible rfl)
     try simp only [Act.put, LsA, LsB, LsC, LsD, LsE, LsF]
     refine wpAnyH_take (i := 19) (v := ?_) rfl (by kernel_rfl) (by kernel_rfl) (by kernel_rfl) (fun _ _ _ h => h) (Or.inl ⟨by rfl, ?_⟩) hHeld ?_
     rotate_left
     ·intro w hSw1
      have dl := hSw1.out.rf.blk.lt
      have z0 := hSw1.out.rf.blk.cell 0
      simp only [List.getElem?_toArray, List.getElem?_cons_zero, List.getElem?_cons_succ] at z0
      go_simp
      try (with_reducible rfl)
     try simp only [Act.put, LsA, LsB, LsC, LsD, LsE, LsF]
     refine wpAnyH_take (i := 20) (v := ?_) rfl (by kernel_rfl) (by kernel_rfl) (by kernel_rfl) (fun _ _ _ h => h) (Or.inl ⟨by rfl, ?_⟩) hHeld ?_
     rotate_left
     ·intro w hSw1
      try dsimp only at hSw1
      go_simp
      try (with_reducible rfl)
     try simp only [Act.put, LsA, LsB, LsC, LsD, LsE, LsF]
     refine wpAnyH_ready (rs := [14]) (by kernel_rfl) (by simp) ?_
     refine AllReadyH.cons rfl (fun K hK => ?_) AllReadyH.nil
     go_simp
     refine (names_any _ S d s hHeld.out.pd.dk HO.out.b).mono ?_; rintro e4 w4 ⟨a4, cap4, rfl, hrow4, st4⟩; have H14 := Lib.hid (hHeld.out.quiet st4); clear hrow4 st4; rw [HNL.out]
     go_wp2_with fail
     refine hK.out _ _ (H14) (fun hHeld2 => ?_)
     clear hK K hHeld
     try simp only [Act.put, LsA, LsB, LsC, LsD, LsE, LsF]
     refine wpAnyH_take (i := 15) (v := ?_) rfl (by kernel_rfl) (by kernel_rfl) (by kernel_rfl) (fun _ _ _ h => h) (Or.inl ⟨by rfl, ?_⟩) hHeld2 ?_
     rotate_left
     ·intro w hSw1
      try dsimp only at hSw1
      go_simp
      try (with_reducible rfl)
     try simp only [Act.put, LsA, LsB, LsC, LsD, LsE, LsF]
     refine wpAnyH_take (i := 21) (v := ?_) rfl (by kernel_rfl) (by kernel_rfl) (by kernel_rfl) (fun _ _ _ h => h) (Or.inl ⟨by rfl, ?_⟩) hHeld2 ?_
     rotate_left
     ·intro w hSw1
      try dsimp only at hSw1
      go_simp
      try (with_reducible rfl)
     try simp only [Act.put, LsA, LsB, LsC, LsD, LsE, LsF]
     refine wpAnyH_take (i := 22) (v := ?_) rfl (by kernel_rfl) (by kernel_rfl) (by kernel_rfl) (fun _ _ _ h => h) (Or.inl ⟨by rfl, ?_⟩) hHeld2 ?_
     rotate_left
     ·intro w hSw1
      try dsimp only at hSw1
      go_simp
      try (with_reducible rfl)
     try simp only [Act.put, LsA, LsB, LsC, LsD, LsE, LsF]
     refine wpAnyH_take (i := 23) (v := ?_) rfl (by kernel_rfl) (by kernel_rfl) (by kernel_rfl) (fun _ _ _ h => h) (Or.inl ⟨by rfl, ?_⟩) hHeld2 ?_
     rotate_left
     ·intro w hSw1
      try dsimp only at hSw1
      go_simp
      try (with_reducible rfl)
     try simp only [Act.put, LsA, LsB, LsC, LsD, LsE, LsF]
     refine wpAnyH_take (i := 24) (v := ?_) rfl (by kernel_rfl) (by kernel_rfl) (by kernel_rfl) (fun _ _ _ h => h) (Or.inl ⟨by rfl, ?_⟩) hHeld2 ?_
     rotate_left
     ·intro w hSw1
      try dsimp only at hSw1
      go_simp
      try (with_reducible rfl)
     try simp only [Act.put, LsA, LsB, LsC, LsD, LsE, LsF]
     refine wpAnyH_take (i := 26) (v := ?_) rfl (by kernel_rfl) (by kernel_rfl) (by kernel_rfl) (fun _ _ _ h => h) (Or.inl ⟨by rfl, ?_⟩) hHeld2 ?_
     rotate_left
     ·intro w hSw1
      try dsimp only at hSw1
      go_simp
      try (with_reducible rfl)
     try simp only [Act.put, LsA, LsB, LsC, LsD, LsE, LsF]
     refine wpAnyH_ready (rs := [25]) (by kernel_rfl) (by simp) ?_
     refine AllReadyH.cons rfl (fun K hK => ?_) AllReadyH.nil
     go_simp
     refine (used_any _ S d s hHeld2.out.pd.dk HO.out.b).mono ?_; rintro e5 w5 ⟨rfl, st5⟩; have H25 := Lib.hid (hHeld2.out.quiet st5); clear st5; rw [HUS.out]
     go_wp2_with fail
     refine hK.out _ _ (H25) (fun hHeld3 => ?_)
     clear hK K hHeld2
     try simp only [Act.put, LsA, LsB, LsC, LsD, LsE, LsF]
     refine wpAnyH_ready (rs := [27]) (by kernel_rfl) (by simp) ?_
     refine AllReadyH.cons rfl (fun K hK => ?_) AllReadyH.nil
     go_simp
     refine (rused_any _ S2 rd s hHeld3.out.pd.rf HO.out.b).mono ?_; rintro e6 w6 ⟨rfl, nn6, hw6⟩; have H27 : Hid (Q8 w w6 S S2 d rd a cap s xb yb z) := Lib.hid (by rw [hw6]; exact hHeld3.out.quiet ((Step.refl [] _).drewN nn6)); clear hw6
     go_wp2_with fail
     refine hK.out _ _ (H27) (fun hHeld4 => ?_)
     clear hK K hHeld3
     try simp only [Act.put, LsA, LsB, LsC, LsD, LsE, LsF]
     refine wpAnyH_take (i := 28) (v := ?_) rfl (by kernel_rfl) (by kernel_rfl) (by kernel_rfl) (fun _ _ _ h => h) (Or.inl ⟨by rfl, ?_⟩) hHeld4 ?_
     rotate_left
     ·intro w hSw1
      try dsimp only at hSw1
      go_simp
      try (with_reducible rfl)
     try simp only [Act.put, LsA, LsB, LsC, LsD, LsE, LsF]
     refine wpAnyH_take (i := 29) (v := ?_) rfl (by kernel_rfl) (by kernel_rfl) (by kernel_rfl) (fun _ _ _ h => h) (Or.inl ⟨by rfl, ?_⟩) hHeld4 ?_
     rotate_left
     ·intro w hSw1
      try dsimp only at hSw1
      go_simp
      try (with_reducible rfl)
     try simp only [Act.put, LsA, LsB, LsC, LsD, LsE, LsF]
     refine wpAnyH_done (by kernel_rfl) ?_ _
     have HFI : Hid (Pl8 w d rd (k + 1) w6) := Lib.hid ⟨S, S2, s, H27.out.pd, HO.out⟩
     clear H27
     go_wp2_with fail
     go_roundw
     case rel => exact ⟨k + 1, by go_num, by omega, HFI⟩
     case measure => simp [intOf]; omega
  ·have hnl : ¬ (k : Int) < N := by omega
   go_wp2_with fail
   exact bodyPost_ret (results_tmp rfl _ _ _) rfl ⟨rfl, HPO.out.1.st.drop (by simp)⟩
theorem ShotPlays_walk (v0 : Value) (w : World) {b0 : Nat} (h0 : Value.okWide Tryz.prog w .any b0 22 v0) (o0 : Op Tryz.prog w 22 v0.cells.toList) (hT : LTabs w) :
  Calls Tryz.prog 3 #[v0] w fun e w' => e = .returned (.bool true) ∧ Below w.heap.size w w' := by
 obtain ⟨a9, n9, c9, rfl⟩ := okWide_slice Tryz.underlying22 h0
 obtain ⟨l, a, cap, e, hr, hq, hl⟩ := op_ovs o0
 simp [Value.cells] at e
 obtain ⟨rfl, rfl, rfl⟩ := e
 exact (plays08_any l _ _ w hT.pow hT.u8 hr hq hl).mono fun e w' ⟨h1, h2⟩ => ⟨h1, h2.below0⟩

set_option maxRecDepth 100000 in
theorem ShotPlays_lifted (os : Os) (started : os.Started) (H : Type) (enc : TypeId × Value → H) :
  ReturnsInHanded {} Tryz.checked os 3 .any (fun w args => (Rows.shotPlaysSpec.pre enc Tryz.prog Tryz.f3 [] false w args ∧ laidMetH Tryz.prog scrLaid w) ∧ sizedMet enc Tryz.prog Tryz.f3 (OpenSpec.ofChange Rows.shotPlaysSpec) false w args)
   (Rows.shotPlaysSpec.post enc Tryz.prog Tryz.f3 false true false false) := by
 refine returnsInHanded_of_change_tabs (C := Tryz.checked) (X := fun w _ => laidMetH Tryz.prog scrLaid w) (fun _ _ _ hh h => h.of_heap hh) (by kernel_rfl) started (by kernel_rfl) Tryz.func3
  (ChangeSpec.witness_shaped (enc := enc) (C := Tryz.checked) (os := os) (X := fun w _ => laidMetH Tryz.prog scrLaid w) false (World.laidAll Tryz.prog os scrLaid) #[.slice none 0 0] 8 (World.laidAll_os _ _ _)
   (World.shaped_of_ZipB (by kernel_rfl) (by kernel_rfl)) (by kernel_rfl) (by kernel_rfl) (by kernel_rfl)
   (by rw [MakeChecks.laidMetH_plain _ _ _ (by kernel_rfl)]; exact laidMet_laidAll _ (by kernel_rfl) (by kernel_rfl))) ?_
 intro W base args ds gs before hval0 hW _ hsz0 hL hS _
 have hval : ∀ (j : Nat) t v, Tryz.f3.params[j]? = some t → args[j]? = some v → Value.okWide Tryz.prog W .any base t v := hval0
 have hsz : (DataW.weightsEach Tryz.prog (Tryz.f3.params.toList ++ Rows.shotPlaysSpec.plain.varTypes Tryz.prog) (ds ++ gs)).all (· ≤ reachBytes) = true := hsz0
 have hW' := hW
 have hT := stabs_of hL hS
 obtain ⟨p, q, hA0, hV, rfl, _, _⟩ := hW
 have hA : DataW.TrodAll enc Tryz.prog W 0 (fun _ => true) true Tryz.f3.params.toList args.toList ds p := hA0
 rw [Tryz.params3] at hA hval hsz
 obtain ⟨v0, vs0, d0, ds0, p0, q0, hargs, rfl, rfl, h0, r0⟩ := trodAll_cons hA
 obtain ⟨rfl, rfl, rfl⟩ := trodAll_nil r0
 obtain rfl : args = #[v0] := by cases args; simp_all
 obtain ⟨rfl, rfl⟩ := trodVars_none hV
 have lt0 : ∀ x ∈ p0, x.block < W.heap.size := by obtain ⟨m, hm⟩ := h0; exact DataW.trod_lt m _ _ _ hm
 have o0 := op_of hsz (j := 0) rfl rfl h0
 refine (ShotPlays_walk v0 W (hval 0 _ v0 rfl rfl) o0 hT).mono fun e W' ⟨he, bel⟩ => ?_
 subst he
 exact ⟨_, rfl, _, _, _, [], _, [], hW', trodAll_mk1 (shut_bool Tryz.underlying4 _), (trodAll_cons_mk (Below.trod (by kernel_rfl) (by kernel_rfl) (of_decide_eq_true (by kernel_rfl)) h0 bel lt0) trodAll_mk0), rfl, bel.frame _, fun h => by cases h⟩

/-- The row's statement. -/
theorem ShotPlays_row : Rows.ShotPlaysSaid :=
 OpenClaim.holds_of_wide 3 Tryz.f3 rfl rfl rfl rfl rfl rfl rfl ⟨rfl, rfl, rfl, rfl, rfl⟩ rfl rfl rfl rfl rfl (by kernel_rfl) Tryz.func3 (by kernel_rfl)
  (of_decide_eq_true (by kernel_rfl)) (by unfold Func.isWrapper; rw [if_neg (of_decide_eq_false (by kernel_rfl))]; exact ⟨rfl, rfl⟩)
  (fun os started H enc _ => ShotPlays_lifted os started H enc)
/-- The card. -/
theorem ShotPlays_holds : Rows.ShotPlaysCardSaid :=
 Claim7.holds_tied_plain_at .later [] [.data, .data, .data, .data, .pinned] true Rows.shotPlaysCard.stood.harness false
  ShotPlays_row (fun _ h => by cases h) (by kernel_rfl) (fun _ h => by cases h) shotPlays_row_tie rfl ⟨rfl, rfl⟩ (by kernel_rfl) rfl
  (fun f fn hf hfn => by
   obtain rfl : f = 3 := Option.some.inj ((show Tryz.prog.funcNamed "exchequer/exchequerlaw08.ShotPlays" = some 3 by kernel_rfl).symm.trans hf) |>.symm
   obtain rfl : fn = Tryz.f3 := (Option.some.inj (Tryz.func3.symm.trans hfn)).symm
   exact ⟨by kernel_rfl, fun j t ht => by
    rw [Tryz.params3] at ht
    have hm : t ∈ [22] := by simpa using Array.mem_of_getElem? ht
    have hall : ([22].all fun u => !Tryz.prog.wantsStandIn u) = true := by kernel_rfl
    exact (show Tryz.prog.wantsStandIn t = false by simpa using List.all_eq_true.1 hall t hm)⟩)
  (by kernel_rfl)
#print axioms ShotPlays_holds
end Go.Proofs.YtjdgdmlhipbaaaaGreatDoor
