/-
 (*Wal).Append. Conditions: the library's tables; a disk that the operations keep; few and small records.
-/
import Derived.Test.YtnkbphecabnnaaaGreatDoorZWlI
namespace Go.Proofs.YtnkbphecabnnaaaGreatDoor
open Go.RowKit Go.Lib Go.Maps
set_option linter.unusedSimpArgs false
set_option linter.unusedVariables false
set_option maxRecDepth 100000

set_option maxHeartbeats 16000000 in
theorem wappend_any (w : World) (S : List Nat) (d b : Nat) (f L : Nat) (z : Int) (o : Bool) (s : St) (k : Nat) (hd : Dk w S d s) (hb : Blk w b 66 (wlc d ⟨f, L, z, o⟩)) (hnb : b ∉ S) (hO : Ok6 s k) (hk : k ≤ 1000) (hL : L ≤ 999999999999) (w0 : World) (hT : PTab w0) (hU : Tabs w0) (h0 : Step [] (b :: S) w0 w) (hz : 0 ≤ z ∧ z ≤ 1000000000) (l : List Rc) (a : Option Addr) (cap : Nat) (hr : Rd w 5 a l.length (rcs l)) (hrn : True) (hfew : FewRc l) : Calls Tryz.prog 16 #[.pointer (some ⟨b, 0, none⟩), .slice a l.length cap] w (WlP (appendW ⟨f, L, z, o⟩ l s) S d b w) := by
 have HT := Lib.hid (And.intro hT (And.intro hU h0))
 have HO := Lib.hid hO
 have HL := Lib.hid hL
 have HR0 := Lib.hid (And.intro hr hrn)
 have HF := Lib.hid hfew
 have hll : l.length ≤ 1000 := hfew.len
 have H0 : Hid (WM w w S S d b ⟨f, L, z, o⟩ s) := Lib.hid ⟨hd, hb, hnb, Step.refl _ _⟩
 clear hT hU h0 hO hd hnb hr hrn hfew
 have fc := hb.cell
 have c0 := fc 0
 have c1 := fc 1
 have c2 := fc 2
 have c3 := fc 3
 have c4 := fc 4
 clear fc
 simp only [wlc, List.getElem?_toArray, List.getElem?_cons_zero, List.getElem?_cons_succ] at c0 c1 c2 c3 c4
 clear hb
 cases o with
 | true =>
  go_enter Tryz.func16, Tryz.ntmps16
  go_wp2_with fail
  exact bodyPost_ret (results_tmp rfl _ _ _) rfl ⟨rfl, S, H0.out⟩
 | false =>
  go_enter Tryz.func16, Tryz.ntmps16
  go_wp2_with fail
  clear c0 c1 c2 c3 c4
  refine (wframes_any l a cap w HR0.out.1 HF.out).mono ?_
  rintro e w1 ⟨fb, fn, fc, xs, rfl, frow, k1, hall⟩
  have H1 : Hid (WM w w1 S S d b ⟨f, L, z, false⟩ s) := Lib.hid (H0.out.quiet k1)
  have HFR : Hid (Row w1 1 fb fn fc xs ∧ ∀ g, g ∈ blks fb → g ∉ S ∧ g ≠ b) := Lib.hid ⟨frow, fun g hg => by
   rcases k1.fresh g hg with h1 | h1
   ·exact absurd h1 (by simp)
   ·exact ⟨fun hm => by have := H0.out.dk.lt g hm; omega, fun e => by have := H0.out.wl.lt; omega⟩⟩
  have HALL := Lib.hid hall
  clear frow k1 hall
  cases har : l.all rightRc with
  | false =>
   have HD : Hid (appendW ⟨f, L, z, false⟩ l s = (1, ⟨f, L, z, false⟩, s)) := Lib.hid (by unfold appendW; simp [har])
   clear har
   go_wp2_with fail
   refine bodyPost_ret (results_tmp rfl _ _ _) rfl ?_
   rw [HD.out]
   exact ⟨rfl, S, H1.out⟩
  | true =>
   obtain ⟨hfn, hxs⟩ := HALL.out har
   have hfnl : fn ≤ 2053000 := by rw [hfn]; exact frames_few HF.out har
   have HB : Hid (fn = (framesB l).length ∧ xs = (framesB l).map bv) := Lib.hid ⟨hfn, hxs⟩
   have HAR := Lib.hid har
   clear hfn hxs har HALL
   have fc := H1.out.wl.cell
   have c0 := fc 0
   have c1 := fc 1
   have c2 := fc 2
   have c3 := fc 3
   have c4 := fc 4
   clear fc
   simp only [wlc, List.getElem?_toArray, List.getElem?_cons_zero, List.getElem?_cons_succ] at c0 c1 c2 c3 c4
   by_cases h0 : L = 0
   ·have q0 : ((L : Int) == 0) = true := by simp; omega
    have HD : Hid (appendW ⟨f, L, z, false⟩ l s = (1, ⟨f, L, z, false⟩, s)) := Lib.hid (by unfold appendW; simp [h0])
    clear h0
    go_wp2_with fail
    refine bodyPost_ret (results_tmp rfl _ _ _) rfl ?_
    rw [HD.out]
    exact ⟨rfl, S, H1.out⟩
   have q0 : ((L : Int) == 0) = false := by simp; omega
   have hL1 : 1 ≤ L := by omega
   obtain ⟨N, hN⟩ : ∃ N, N = l.length := ⟨_, rfl⟩
   have HN := Lib.hid hN
   rw [← hN] at hll ⊢
   clear hN
   by_cases hl0 : N = 0
   ·have qn : ((N : Int) == 0) = true := by simp; omega
    have HD : Hid (appendW ⟨f, L, z, false⟩ l s = (0, ⟨f, L, z, false⟩, s)) := Lib.hid (by
     have hl2 : l = [] := List.eq_nil_of_length_eq_zero (by rw [← HN.out]; exact hl0)
     unfold appendW; subst hl2; simp; omega)
    clear h0 hl0
    go_wp2_with fail
    refine bodyPost_ret (results_tmp rfl _ _ _) rfl ?_
    rw [HD.out]
    exact ⟨rfl, S, H1.out⟩
   have qn : ((N : Int) == 0) = false := by simp; omega
   have HLN : Hid (l ≠ []) := Lib.hid (by rintro rfl; exact hl0 HN.out)
   have HLZ : Hid (¬ (L : Int) = 0) := Lib.hid (by omega)
   clear h0 hl0
   have hzz : z ≤ 1000000000 := hz.2
   have hz0 : 0 ≤ z := hz.1
   clear hz
   by_cases hbig : 2048 ≤ z
   ·have qb : decide (2048 ≤ z) = true := decide_eq_true hbig
    have HAW : Hid (appendW ⟨f, L, z, false⟩ l s = if (L : Int) = 999999999999 then (2, ⟨f, L, z, false⟩, s) else if (syncS s (fileW L)).1 ≠ 0 then ((syncS s (fileW L)).1, noteW ⟨f, L, z, false⟩ (syncS s (fileW L)).1, (syncS s (fileW L)).2) else putW ⟨f, L, z, false⟩ ((L + 1 : Nat) : Int) 0 (framesB l) (syncS s (fileW L)).2) := Lib.hid (by
     unfold appendW
     simp only [Bool.false_eq_true, if_false, HAR.out, Bool.true_eq_false, false_or]
     rw [if_neg HLZ.out, if_neg HLN.out, if_pos hbig]
     rfl)
    go_upto_region 8 with fail
    go_quiet (fail)
    obtain ⟨w2, hw2⟩ : ∃ w2, w2 = w1.drewN nq := ⟨_, rfl⟩
    rw [← hw2]
    have kq : Step [] [] w1 w2 := by rw [hw2]; exact (Step.refl [] w1).drewN _
    have H2 := Lib.hid (H1.out.quiet kq)
    have HR2 : Hid (Row w2 1 fb fn fc xs) := Lib.hid (HFR.out.1.step kq (by simp))
    clear hw2 kq H1 c0 c1 c2 c3 c4 hbig
    by_cases hlast : L = 999999999999
    ·have ql : ((L : Int) == 999999999999) = true := by simp; omega
     have HD : Hid (appendW ⟨f, L, z, false⟩ l s = (2, ⟨f, L, z, false⟩, s)) := Lib.hid (by rw [HAW.out, if_pos (by omega)])
     clear hlast
     go_wp2_with fail
     refine bodyPost_ret (results_tmp rfl _ _ _) rfl ?_
     rw [HD.out]
     exact ⟨rfl, S, H2.out⟩
    have ql : ((L : Int) == 999999999999) = false := by simp; omega
    have hL2 : L + 1 ≤ 999999999999 := by omega
    have HAV : Hid (appendW ⟨f, L, z, false⟩ l s = if (syncS s (fileW L)).1 ≠ 0 then ((syncS s (fileW L)).1, noteW ⟨f, L, z, false⟩ (syncS s (fileW L)).1, (syncS s (fileW L)).2) else putW ⟨f, L, z, false⟩ ((L + 1 : Nat) : Int) 0 (framesB l) (syncS s (fileW L)).2) := Lib.hid (by rw [HAW.out, if_neg (by omega)])
    clear hlast HAW
    go_upto_region 12 with fail
    obtain ⟨V, hV⟩ : ∃ V, V = w2.drew := ⟨_, rfl⟩
    have HM : Hid (WM w V S S d b ⟨f, L, z, false⟩ s) := Lib.hid (by rw [hV]; exact H2.out.drew)
    have HR : Hid (Row V 1 fb fn fc xs) := Lib.hid (by rw [hV]; exact HR2.out.step ((Step.refl [] w2).drew) (by simp))
    have HRN : Hid ((∀ g, g ∈ blks fb → g ∉ S) ∧ ∀ g, g ∈ blks fb → g ≠ b) := Lib.hid ⟨fun g hg => (HFR.out.2 g hg).1, fun g hg => (HFR.out.2 g hg).2⟩
    clear H2 HR2
    refine wp_region_held_drew (S := fun W => Hid ((∃ o1, Blk W b 66 (wlc d ⟨f, L, z, o1⟩)) ∧ Row W 1 fb fn fc xs)) (by kernel_rfl) (by rw [← hV]; exact Lib.hid ⟨⟨_, HM.out.wl⟩, HR.out⟩) (fun hHeld => ?_)
    rw [← hV] at hHeld ⊢
    clear hV
    refine wpAnyH_take (i := 0) (v := ?_) rfl (by kernel_rfl) (by kernel_rfl) (by kernel_rfl) (fun _ _ _ h => h) (Or.inl ⟨by rfl, ?_⟩) hHeld ?_
    rotate_left
    ·intro w hSw1
     try dsimp only at hSw1
     go_simp
     try (with_reducible rfl)
    try simp only [Act.put, LsA, LsB, LsC, LsD, LsE, LsF]
    refine wpAnyH_take (i := 1) (v := ?_) rfl (by kernel_rfl) (by kernel_rfl) (by kernel_rfl) (fun _ _ _ h => h) (Or.inl ⟨by rfl, ?_⟩) hHeld ?_
    rotate_left
    ·intro w hSw1
     try dsimp only at hSw1
     go_simp
     try (with_reducible rfl)
    try simp only [Act.put, LsA, LsB, LsC, LsD, LsE, LsF]
    refine wpAnyH_take (i := 2) (v := ?_) rfl (by kernel_rfl) (by kernel_rfl) (by kernel_rfl) (fun _ _ _ h => h) (Or.inl ⟨by rfl, ?_⟩) hHeld ?_
    rotate_left
    ·intro w hSw1
     try dsimp only at hSw1
     go_simp
     try (with_reducible rfl)
    try simp only [Act.put, LsA, LsB, LsC, LsD, LsE, LsF]
    refine wpAnyH_take (i := 3) (v := ?_) rfl (by kernel_rfl) (by kernel_rfl) (by kernel_rfl) (fun _ _ _ h => h) (Or.inl ⟨by rfl, ?_⟩) hHeld ?_
    rotate_left
    ·intro w hSw1
     try dsimp only at hSw1
     go_simp
     try (with_reducible rfl)
    try simp only [Act.put, LsA, LsB, LsC, LsD, LsE, LsF]
    refine wpAnyH_take (i := 4) (v := ?_) rfl (by kernel_rfl) (by kernel_rfl) (by kernel_rfl) (fun _ _ _ h => h) (Or.inl ⟨by rfl, ?_⟩) hHeld ?_
    rotate_left
    ·intro w hSw1
     obtain ⟨o1, hx1⟩ := hSw1.out.1
     have fc := hx1.cell
     have c0 := fc 0
     have c1 := fc 1
     have c2 := fc 2
     have c3 := fc 3
     have c4 := fc 4
     clear fc
     simp only [wlc, List.getElem?_toArray, List.getElem?_cons_zero, List.getElem?_cons_succ] at c0 c1 c2 c3 c4
     go_simp
     try (with_reducible rfl)
    try simp only [Act.put, LsA, LsB, LsC, LsD, LsE, LsF]
    refine wpAnyH_take (i := 5) (v := ?_) rfl (by kernel_rfl) (by kernel_rfl) (by kernel_rfl) (fun _ _ _ h => h) (Or.inl ⟨by rfl, ?_⟩) hHeld ?_
    rotate_left
    ·intro w hSw1
     try dsimp only at hSw1
     go_simp
     try (with_reducible rfl)
    try simp only [Act.put, LsA, LsB, LsC, LsD, LsE, LsF]
    refine wpAnyH_ready (rs := [6]) (by kernel_rfl) (by simp) ?_
    refine AllReadyH.cons rfl (fun K hK => ?_) AllReadyH.nil
    go_simp
    refine (wfile_any L HL.out V (HT.out.1.step (HT.out.2.2.trans HM.out.st))).mono ?_; rintro e1 u1 ⟨rfl, k1⟩; have Q1 := Lib.hid (HM.out.quiet k1); have HR1 := Lib.hid ((HR.out.step k1 (by simp))); clear k1
    go_wp2_with fail
    refine hK.out _ _ (Lib.hid ⟨⟨_, Q1.out.wl⟩, HR1.out⟩) (fun hHeld2 => ?_)
    clear hK K hHeld
    try simp only [Act.put, LsA, LsB, LsC, LsD, LsE, LsF]
    refine wpAnyH_ready (rs := [7]) (by kernel_rfl) (by simp) ?_
    refine AllReadyH.cons rfl (fun K hK => ?_) AllReadyH.nil
    go_simp
    refine (sync_any (fileW L) u1 S d s Q1.out.dk HO.out.b (by rw [fileW_len]; omega)).mono ?_; rintro e2 u2 ⟨rfl, S2, hd2, k2⟩; obtain ⟨er, her⟩ : ∃ er, er = (syncS s (fileW L)).1 := ⟨_, rfl⟩; obtain ⟨s2, hs2⟩ : ∃ s2, s2 = (syncS s (fileW L)).2 := ⟨_, rfl⟩; have HER := Lib.hid (And.intro her hs2); rw [← hs2] at hd2; rw [← her]; clear her hs2; have Q2 := Lib.hid (Q1.out.turn hd2 k2); have HRN2 : Hid (∀ g, g ∈ blks fb → g ∉ S2) := Lib.hid (fun g hg => k2.notin (HR1.out.lt g hg) (HRN.out.1 g hg)); have HR2 := Lib.hid ((HR1.out.step k2 (fun g hg => HRN.out.1 g hg))); clear hd2 k2
    go_wp2_with fail
    refine hK.out _ _ (Lib.hid ⟨⟨_, Q2.out.wl⟩, HR2.out⟩) (fun hHeld3 => ?_)
    clear hK K hHeld2
    try simp only [Act.put, LsA, LsB, LsC, LsD, LsE, LsF]
    refine wpAnyH_ready (rs := [8]) (by kernel_rfl) (by simp) ?_
    refine AllReadyH.cons rfl (fun K hK => ?_) AllReadyH.nil
    go_simp
    refine (wnote_any u2 b d ⟨f, L, z, false⟩ er Q2.out.wl).mono ?_; rintro e3 u3 ⟨rfl, hb3, k3⟩; have Q3 := Lib.hid (Q2.out.set hb3 k3); have HR3 := Lib.hid ((HR2.out.step k3 (fun g hg hm => HRN.out.2 g hg (by simpa using hm)))); clear hb3 k3
    go_wp2_with fail
    refine hK.out _ _ (Lib.hid ⟨⟨_, (by have h := Q3.out.wl; rw [noteW_form] at h; exact h)⟩, HR3.out⟩) (fun hHeld4 => ?_)
    clear hK K hHeld3
    try simp only [Act.put, LsA, LsB, LsC, LsD, LsE, LsF]
    refine wpAnyH_take (i := 9) (v := ?_) rfl (by kernel_rfl) (by kernel_rfl) (by kernel_rfl) (fun _ _ _ h => h) (Or.inl ⟨by rfl, ?_⟩) hHeld4 ?_
    rotate_left
    ·intro w hSw1
     try dsimp only at hSw1
     go_simp
     try (with_reducible rfl)
    try simp only [Act.put, LsA, LsB, LsC, LsD, LsE, LsF]
    refine wpAnyH_done (by kernel_rfl) ?_ _
    by_cases he : er = 0
    ·have qe : (er != 0) = false := by simpa using he
     have HX : Hid (WM w u3 S S2 d b ⟨f, L, z, false⟩ s2) := Lib.hid (by have h := Q3.out; rw [he] at h; exact h)
     have HAW : Hid (appendW ⟨f, L, z, false⟩ l s = putW ⟨f, L, z, false⟩ ((L + 1 : Nat) : Int) 0 (framesB l) s2) := Lib.hid (by rw [HAV.out, ← HER.out.1, ← HER.out.2, if_neg (by simpa using he)])
     have HO2 : Hid (Ok6 s2 k) := Lib.hid (by rw [HER.out.2]; exact ok_sync HO.out _)
     have HRX : Hid (Row u3 1 fb fn fc xs ∧ ∀ g, g ∈ blks fb → g ∉ S2) := Lib.hid ⟨HR3.out, fun g hg => HRN2.out g hg⟩
     clear he HAV HER HR HR1 HR2 HR3 HM Q1 Q2 Q3 HRN2
     go_upto_region 16 with fail
     obtain ⟨V2, hV⟩ : ∃ V2, V2 = u3.drew := ⟨_, rfl⟩
     have HM : Hid (WM w V2 S S2 d b ⟨f, L, z, false⟩ s2) := Lib.hid (by rw [hV]; exact HX.out.drew)
     have HR : Hid (Row V2 1 fb fn fc xs) := Lib.hid (by rw [hV]; exact HRX.out.1.step ((Step.refl [] u3).drew) (by simp))
     have HRN : Hid ((∀ g, g ∈ blks fb → g ∉ S2) ∧ ∀ g, g ∈ blks fb → g ≠ b) := Lib.hid ⟨HRX.out.2, HRN.out.2⟩
     clear HX HRX
     obtain ⟨SS, sS⟩ : ∃ SS : List Nat, SS = S2 := ⟨_, rfl⟩
     obtain ⟨sB, hsB⟩ : ∃ sB, sB = s2 := ⟨_, rfl⟩
     rw [← sS, ← hsB] at HM
     rw [← hsB] at HAW HO2
     rw [← sS] at HRN
     clear sS hsB
     refine wp_region_held_drew (S := fun W => Hid ((∃ o1, Blk W b 66 (wlc d ⟨f, L, z, o1⟩)) ∧ Row W 1 fb fn fc xs)) (by kernel_rfl) (by rw [← hV]; exact Lib.hid ⟨⟨_, HM.out.wl⟩, HR.out⟩) (fun hHeld => ?_)
     rw [← hV] at hHeld ⊢
     clear hV
     refine wpAnyH_take (i := 0) (v := ?_) rfl (by kernel_rfl) (by kernel_rfl) (by kernel_rfl) (fun _ _ _ h => h) (Or.inl ⟨by rfl, ?_⟩) hHeld ?_
     rotate_left
     ·intro w hSw1
      try dsimp only at hSw1
      go_simp
      try (with_reducible rfl)
     try simp only [Act.put, LsA, LsB, LsC, LsD, LsE, LsF]
     refine wpAnyH_take (i := 1) (v := ?_) rfl (by kernel_rfl) (by kernel_rfl) (by kernel_rfl) (fun _ _ _ h => h) (Or.inl ⟨by rfl, ?_⟩) hHeld ?_
     rotate_left
     ·intro w hSw1
      try dsimp only at hSw1
      go_simp
      try (with_reducible rfl)
     try simp only [Act.put, LsA, LsB, LsC, LsD, LsE, LsF]
     refine wpAnyH_take (i := 2) (v := ?_) rfl (by kernel_rfl) (by kernel_rfl) (by kernel_rfl) (fun _ _ _ h => h) (Or.inl ⟨by rfl, ?_⟩) hHeld ?_
     rotate_left
     ·intro w hSw1
      try dsimp only at hSw1
      go_simp
      try (with_reducible rfl)
     try simp only [Act.put, LsA, LsB, LsC, LsD, LsE, LsF]
     refine wpAnyH_take (i := 3) (v := ?_) rfl (by kernel_rfl) (by kernel_rfl) (by kernel_rfl) (fun _ _ _ h => h) (Or.inl ⟨by rfl, ?_⟩) hHeld ?_
     rotate_left
     ·intro w hSw1
      try dsimp only at hSw1
      go_simp
      try (with_reducible rfl)
     try simp only [Act.put, LsA, LsB, LsC, LsD, LsE, LsF]
     refine wpAnyH_take (i := 4) (v := ?_) rfl (by kernel_rfl) (by kernel_rfl) (by kernel_rfl) (fun _ _ _ h => h) (Or.inl ⟨by rfl, ?_⟩) hHeld ?_
     rotate_left
     ·intro w hSw1
      obtain ⟨o1, hx1⟩ := hSw1.out.1
      have fc := hx1.cell
      have c0 := fc 0
      have c1 := fc 1
      have c2 := fc 2
      have c3 := fc 3
      have c4 := fc 4
      clear fc
      simp only [wlc, List.getElem?_toArray, List.getElem?_cons_zero, List.getElem?_cons_succ] at c0 c1 c2 c3 c4
      go_simp
      try (with_reducible rfl)
     try simp only [Act.put, LsA, LsB, LsC, LsD, LsE, LsF]
     refine wpAnyH_take (i := 5) (v := ?_) rfl (by kernel_rfl) (by kernel_rfl) (by kernel_rfl) (fun _ _ _ h => h) (Or.inl ⟨by rfl, ?_⟩) hHeld ?_
     rotate_left
     ·intro w hSw1
      try dsimp only at hSw1
      go_simp
      try (with_reducible rfl)
     try simp only [Act.put, LsA, LsB, LsC, LsD, LsE, LsF]
     refine wpAnyH_take (i := 7) (v := ?_) rfl (by kernel_rfl) (by kernel_rfl) (by kernel_rfl) (fun _ _ _ h => h) (Or.inl ⟨by rfl, ?_⟩) hHeld ?_
     rotate_left
     ·intro w hSw1
      try dsimp only at hSw1
      go_simp
      try (with_reducible rfl)
     try simp only [Act.put, LsA, LsB, LsC, LsD, LsE, LsF]
     refine wpAnyH_take (i := 8) (v := ?_) rfl (by kernel_rfl) (by kernel_rfl) (by kernel_rfl) (fun _ _ _ h => h) (Or.inl ⟨by rfl, ?_⟩) hHeld ?_
     rotate_left
     ·intro w hSw1
      have hs := run_str_of_row (P := Tryz.prog) 22 9 5 Tryz.underlying22 Tryz.underlying5 Tryz.underlying9 (show Row w 1 fb (framesB l).length fc ((framesB l).map bv) by have h := hSw1.out.2; rwa [HB.out.1, HB.out.2] at h)
      rw [← HB.out.1] at hs
      go_simp
      try (with_reducible rfl)
     try simp only [Act.put, LsA, LsB, LsC, LsD, LsE, LsF]
     refine wpAnyH_ready (rs := [6]) (by kernel_rfl) (by simp) ?_
     refine AllReadyH.cons rfl (fun K hK => ?_) AllReadyH.nil
     go_simp
     refine (wfile_any (L + 1) hL2 V2 (HT.out.1.step (HT.out.2.2.trans HM.out.st))).mono ?_; rintro e1 u1 ⟨rfl, k1⟩; have Q1 := Lib.hid (HM.out.quiet k1); have HR1 := Lib.hid ((HR.out.step k1 (by simp))); clear k1
     go_wp2_with fail
     refine hK.out _ _ (Lib.hid ⟨⟨_, Q1.out.wl⟩, HR1.out⟩) (fun hHeld2 => ?_)
     clear hK K hHeld
     try simp only [Act.put, LsA, LsB, LsC, LsD, LsE, LsF]
     refine wpAnyH_ready (rs := [9]) (by kernel_rfl) (by simp) ?_
     refine AllReadyH.cons rfl (fun K hK => ?_) AllReadyH.nil
     go_simp
     refine (append_any (fileW (L + 1)) (framesB l) u1 SS d sB Q1.out.dk HO2.out.b (HT.out.2.1.step (HT.out.2.2.trans Q1.out.st)) ⟨by rw [fileW_len]; omega, by rw [← HB.out.1]; omega⟩).mono ?_; rintro e2 u2 ⟨rfl, S2, hd2, k2⟩; obtain ⟨er, her⟩ : ∃ er, er = (appendS sB (fileW (L + 1)) (framesB l)).1 := ⟨_, rfl⟩; obtain ⟨s2, hs2⟩ : ∃ s2, s2 = (appendS sB (fileW (L + 1)) (framesB l)).2 := ⟨_, rfl⟩; have HER := Lib.hid (And.intro her hs2); rw [← hs2] at hd2; rw [← her]; clear her hs2; have Q2 := Lib.hid (Q1.out.turn hd2 k2); have HR2 := Lib.hid ((HR1.out.step k2 (fun g hg => HRN.out.1 g hg))); clear hd2 k2
     go_wp2_with fail
     refine hK.out _ _ (Lib.hid ⟨⟨_, Q2.out.wl⟩, HR2.out⟩) (fun hHeld3 => ?_)
     clear hK K hHeld2
     try simp only [Act.put, LsA, LsB, LsC, LsD, LsE, LsF]
     refine wpAnyH_ready (rs := [10]) (by kernel_rfl) (by simp) ?_
     refine AllReadyH.cons rfl (fun K hK => ?_) AllReadyH.nil
     go_simp
     refine (wnote_any u2 b d ⟨f, L, z, false⟩ er Q2.out.wl).mono ?_; rintro e3 u3 ⟨rfl, hb3, k3⟩; have Q3 := Lib.hid (Q2.out.set hb3 k3); have HR3 := Lib.hid ((HR2.out.step k3 (fun g hg hm => HRN.out.2 g hg (by simpa using hm)))); clear hb3 k3
     go_wp2_with fail
     refine hK.out _ _ (Lib.hid ⟨⟨_, (by have h := Q3.out.wl; rw [noteW_form] at h; exact h)⟩, HR3.out⟩) (fun hHeld4 => ?_)
     clear hK K hHeld3
     try simp only [Act.put, LsA, LsB, LsC, LsD, LsE, LsF]
     refine wpAnyH_take (i := 11) (v := ?_) rfl (by kernel_rfl) (by kernel_rfl) (by kernel_rfl) (fun _ _ _ h => h) (Or.inl ⟨by rfl, ?_⟩) hHeld4 ?_
     rotate_left
     ·intro w hSw1
      try dsimp only at hSw1
      go_simp
      try (with_reducible rfl)
     try simp only [Act.put, LsA, LsB, LsC, LsD, LsE, LsF]
     refine wpAnyH_done (by kernel_rfl) ?_ _
     have HPW : Hid (putW ⟨f, L, z, false⟩ ((L + 1 : Nat) : Int) 0 (framesB l) sB = if er ≠ 0 then (er, noteW ⟨f, L, z, false⟩ er, s2) else (0, ⟨f, ((L + 1 : Nat) : Int), 0 + ((framesB l).length : Int), false⟩, s2)) := Lib.hid (by unfold putW; rw [HER.out.1, HER.out.2]; simp only [show (((L + 1 : Nat) : Int)).toNat = L + 1 from rfl, Int.toNat_natCast])
     by_cases he : er = 0
     ·have qe : (er != 0) = false := by simpa using he
      have HD : Hid (appendW ⟨f, L, z, false⟩ l s = (0, ⟨f, ((L + 1 : Nat) : Int), 0 + ((framesB l).length : Int), false⟩, s2)) := Lib.hid (by rw [HAW.out, HPW.out, if_neg (by simpa using he)])
      have HX : Hid (WM w u3 S S2 d b ⟨f, L, z, false⟩ s2) := Lib.hid (by have h := Q3.out; rw [he] at h; exact h)
      have hbl := HX.out.wl.lt
      have fz2 := HX.out.wl.frozen 2
      have fz3 := HX.out.wl.frozen 3
      have c2 := HX.out.wl.cell 2
      have c3 := HX.out.wl.cell 3
      simp only [wlc, List.getElem?_toArray, List.getElem?_cons_zero, List.getElem?_cons_succ] at c2 c3
      clear he
      go_wp2_with fail
      refine bodyPost_ret (results_tmp rfl _ _ _) rfl ?_
      rw [HD.out, ← HB.out.1]
      refine ⟨rfl, S2, HX.out.set ?_ (((Step.refl [b] u3).setCell (p := ⟨b, 2, none⟩) (.inl (by simp)) _).setCell (p := ⟨b, 3, none⟩) (.inl (by simp)) _)⟩
      have hh := (HX.out.wl.set 2 (.int .i64 ((L + 1 : Nat) : Int))).set 3 (.int .i64 (0 + (fn : Int)))
      simpa using hh
     ·have qe : (er != 0) = true := by simpa using he
      have HD : Hid (appendW ⟨f, L, z, false⟩ l s = (er, noteW ⟨f, L, z, false⟩ er, s2)) := Lib.hid (by rw [HAW.out, HPW.out, if_pos he])
      clear he
      go_wp2_with fail
      refine bodyPost_ret (results_tmp rfl _ _ _) rfl ?_
      rw [HD.out]
      exact ⟨rfl, S2, Q3.out⟩
    ·have qe : (er != 0) = true := by simpa using he
     have HD : Hid (appendW ⟨f, L, z, false⟩ l s = (er, noteW ⟨f, L, z, false⟩ er, s2)) := Lib.hid (by rw [HAV.out, ← HER.out.1, ← HER.out.2, if_pos he])
     clear he
     go_wp2_with fail
     refine bodyPost_ret (results_tmp rfl _ _ _) rfl ?_
     rw [HD.out]
     exact ⟨rfl, S2, Q3.out⟩
   ·have qb : decide (2048 ≤ z) = false := decide_eq_false hbig
    have HAV : Hid (appendW ⟨f, L, z, false⟩ l s = putW ⟨f, L, z, false⟩ (L : Int) z (framesB l) s) := Lib.hid (by
     unfold appendW
     simp only [Bool.false_eq_true, if_false, HAR.out, Bool.true_eq_false, false_or]
     rw [if_neg HLZ.out, if_neg HLN.out, if_neg hbig])
    go_upto_region 8 with fail
    go_quiet (fail)
    obtain ⟨w2, hw2⟩ : ∃ w2, w2 = w1.drewN nq := ⟨_, rfl⟩
    rw [← hw2]
    have kq : Step [] [] w1 w2 := by rw [hw2]; exact (Step.refl [] w1).drewN _
    have H2 := Lib.hid (H1.out.quiet kq)
    have HR2 : Hid (Row w2 1 fb fn fc xs) := Lib.hid (HFR.out.1.step kq (by simp))
    clear hw2 kq H1 c0 c1 c2 c3 c4 hbig
    go_upto_region 16 with fail
    obtain ⟨V, hV⟩ : ∃ V, V = w2.drew := ⟨_, rfl⟩
    have HM : Hid (WM w V S S d b ⟨f, L, z, false⟩ s) := Lib.hid (by rw [hV]; exact H2.out.drew)
    have HR : Hid (Row V 1 fb fn fc xs) := Lib.hid (by rw [hV]; exact HR2.out.step ((Step.refl [] w2).drew) (by simp))
    have HRN : Hid ((∀ g, g ∈ blks fb → g ∉ S) ∧ ∀ g, g ∈ blks fb → g ≠ b) := Lib.hid ⟨fun g hg => (HFR.out.2 g hg).1, fun g hg => (HFR.out.2 g hg).2⟩
    clear H2 HR2
    refine wp_region_held_drew (S := fun W => Hid ((∃ o1, Blk W b 66 (wlc d ⟨f, L, z, o1⟩)) ∧ Row W 1 fb fn fc xs)) (by kernel_rfl) (by rw [← hV]; exact Lib.hid ⟨⟨_, HM.out.wl⟩, HR.out⟩) (fun hHeld => ?_)
    rw [← hV] at hHeld ⊢
    clear hV
    refine wpAnyH_take (i := 0) (v := ?_) rfl (by kernel_rfl) (by kernel_rfl) (by kernel_rfl) (fun _ _ _ h => h) (Or.inl ⟨by rfl, ?_⟩) hHeld ?_
    rotate_left
    ·intro w hSw1
     try dsimp only at hSw1
     go_simp
     try (with_reducible rfl)
    try simp only [Act.put, LsA, LsB, LsC, LsD, LsE, LsF]
    refine wpAnyH_take (i := 1) (v := ?_) rfl (by kernel_rfl) (by kernel_rfl) (by kernel_rfl) (fun _ _ _ h => h) (Or.inl ⟨by rfl, ?_⟩) hHeld ?_
    rotate_left
    ·intro w hSw1
     try dsimp only at hSw1
     go_simp
     try (with_reducible rfl)
    try simp only [Act.put, LsA, LsB, LsC, LsD, LsE, LsF]
    refine wpAnyH_take (i := 2) (v := ?_) rfl (by kernel_rfl) (by kernel_rfl) (by kernel_rfl) (fun _ _ _ h => h) (Or.inl ⟨by rfl, ?_⟩) hHeld ?_
    rotate_left
    ·intro w hSw1
     try dsimp only at hSw1
     go_simp
     try (with_reducible rfl)
    try simp only [Act.put, LsA, LsB, LsC, LsD, LsE, LsF]
    refine wpAnyH_take (i := 3) (v := ?_) rfl (by kernel_rfl) (by kernel_rfl) (by kernel_rfl) (fun _ _ _ h => h) (Or.inl ⟨by rfl, ?_⟩) hHeld ?_
    rotate_left
    ·intro w hSw1
     try dsimp only at hSw1
     go_simp
     try (with_reducible rfl)
    try simp only [Act.put, LsA, LsB, LsC, LsD, LsE, LsF]
    refine wpAnyH_take (i := 4) (v := ?_) rfl (by kernel_rfl) (by kernel_rfl) (by kernel_rfl) (fun _ _ _ h => h) (Or.inl ⟨by rfl, ?_⟩) hHeld ?_
    rotate_left
    ·intro w hSw1
     obtain ⟨o1, hx1⟩ := hSw1.out.1
     have fc := hx1.cell
     have c0 := fc 0
     have c1 := fc 1
     have c2 := fc 2
     have c3 := fc 3
     have c4 := fc 4
     clear fc
     simp only [wlc, List.getElem?_toArray, List.getElem?_cons_zero, List.getElem?_cons_succ] at c0 c1 c2 c3 c4
     go_simp
     try (with_reducible rfl)
    try simp only [Act.put, LsA, LsB, LsC, LsD, LsE, LsF]
    refine wpAnyH_take (i := 5) (v := ?_) rfl (by kernel_rfl) (by kernel_rfl) (by kernel_rfl) (fun _ _ _ h => h) (Or.inl ⟨by rfl, ?_⟩) hHeld ?_
    rotate_left
    ·intro w hSw1
     try dsimp only at hSw1
     go_simp
     try (with_reducible rfl)
    try simp only [Act.put, LsA, LsB, LsC, LsD, LsE, LsF]
    refine wpAnyH_take (i := 7) (v := ?_) rfl (by kernel_rfl) (by kernel_rfl) (by kernel_rfl) (fun _ _ _ h => h) (Or.inl ⟨by rfl, ?_⟩) hHeld ?_
    rotate_left
    ·intro w hSw1
     try dsimp only at hSw1
     go_simp
     try (with_reducible rfl)
    try simp only [Act.put, LsA, LsB, LsC, LsD, LsE, LsF]
    refine wpAnyH_take (i := 8) (v := ?_) rfl (by kernel_rfl) (by kernel_rfl) (by kernel_rfl) (fun _ _ _ h => h) (Or.inl ⟨by rfl, ?_⟩) hHeld ?_
    rotate_left
    ·intro w hSw1
     have hs := run_str_of_row (P := Tryz.prog) 22 9 5 Tryz.underlying22 Tryz.underlying5 Tryz.underlying9 (show Row w 1 fb (framesB l).length fc ((framesB l).map bv) by have h := hSw1.out.2; rwa [HB.out.1, HB.out.2] at h)
     rw [← HB.out.1] at hs
     go_simp
     try (with_reducible rfl)
    try simp only [Act.put, LsA, LsB, LsC, LsD, LsE, LsF]
    refine wpAnyH_ready (rs := [6]) (by kernel_rfl) (by simp) ?_
    refine AllReadyH.cons rfl (fun K hK => ?_) AllReadyH.nil
    go_simp
    refine (wfile_any L HL.out V (HT.out.1.step (HT.out.2.2.trans HM.out.st))).mono ?_; rintro e1 u1 ⟨rfl, k1⟩; have Q1 := Lib.hid (HM.out.quiet k1); have HR1 := Lib.hid ((HR.out.step k1 (by simp))); clear k1
    go_wp2_with fail
    refine hK.out _ _ (Lib.hid ⟨⟨_, Q1.out.wl⟩, HR1.out⟩) (fun hHeld2 => ?_)
    clear hK K hHeld
    try simp only [Act.put, LsA, LsB, LsC, LsD, LsE, LsF]
    refine wpAnyH_ready (rs := [9]) (by kernel_rfl) (by simp) ?_
    refine AllReadyH.cons rfl (fun K hK => ?_) AllReadyH.nil
    go_simp
    refine (append_any (fileW (L)) (framesB l) u1 S d s Q1.out.dk HO.out.b (HT.out.2.1.step (HT.out.2.2.trans Q1.out.st)) ⟨by rw [fileW_len]; omega, by rw [← HB.out.1]; omega⟩).mono ?_; rintro e2 u2 ⟨rfl, S2, hd2, k2⟩; obtain ⟨er, her⟩ : ∃ er, er = (appendS s (fileW (L)) (framesB l)).1 := ⟨_, rfl⟩; obtain ⟨s2, hs2⟩ : ∃ s2, s2 = (appendS s (fileW (L)) (framesB l)).2 := ⟨_, rfl⟩; have HER := Lib.hid (And.intro her hs2); rw [← hs2] at hd2; rw [← her]; clear her hs2; have Q2 := Lib.hid (Q1.out.turn hd2 k2); have HR2 := Lib.hid ((HR1.out.step k2 (fun g hg => HRN.out.1 g hg))); clear hd2 k2
    go_wp2_with fail
    refine hK.out _ _ (Lib.hid ⟨⟨_, Q2.out.wl⟩, HR2.out⟩) (fun hHeld3 => ?_)
    clear hK K hHeld2
    try simp only [Act.put, LsA, LsB, LsC, LsD, LsE, LsF]
    refine wpAnyH_ready (rs := [10]) (by kernel_rfl) (by simp) ?_
    refine AllReadyH.cons rfl (fun K hK => ?_) AllReadyH.nil
    go_simp
    refine (wnote_any u2 b d ⟨f, L, z, false⟩ er Q2.out.wl).mono ?_; rintro e3 u3 ⟨rfl, hb3, k3⟩; have Q3 := Lib.hid (Q2.out.set hb3 k3); have HR3 := Lib.hid ((HR2.out.step k3 (fun g hg hm => HRN.out.2 g hg (by simpa using hm)))); clear hb3 k3
    go_wp2_with fail
    refine hK.out _ _ (Lib.hid ⟨⟨_, (by have h := Q3.out.wl; rw [noteW_form] at h; exact h)⟩, HR3.out⟩) (fun hHeld4 => ?_)
    clear hK K hHeld3
    try simp only [Act.put, LsA, LsB, LsC, LsD, LsE, LsF]
    refine wpAnyH_take (i := 11) (v := ?_) rfl (by kernel_rfl) (by kernel_rfl) (by kernel_rfl) (fun _ _ _ h => h) (Or.inl ⟨by rfl, ?_⟩) hHeld4 ?_
    rotate_left
    ·intro w hSw1
     try dsimp only at hSw1
     go_simp
     try (with_reducible rfl)
    try simp only [Act.put, LsA, LsB, LsC, LsD, LsE, LsF]
    refine wpAnyH_done (by kernel_rfl) ?_ _
    have HPW : Hid (putW ⟨f, L, z, false⟩ (L : Int) z (framesB l) s = if er ≠ 0 then (er, noteW ⟨f, L, z, false⟩ er, s2) else (0, ⟨f, (L : Int), z + ((framesB l).length : Int), false⟩, s2)) := Lib.hid (by unfold putW; rw [HER.out.1, HER.out.2]; simp only [show ((L : Int)).toNat = L from rfl, Int.toNat_natCast])
    by_cases he : er = 0
    ·have qe : (er != 0) = false := by simpa using he
     have HD : Hid (appendW ⟨f, L, z, false⟩ l s = (0, ⟨f, (L : Int), z + ((framesB l).length : Int), false⟩, s2)) := Lib.hid (by rw [HAV.out, HPW.out, if_neg (by simpa using he)])
     have HX : Hid (WM w u3 S S2 d b ⟨f, L, z, false⟩ s2) := Lib.hid (by have h := Q3.out; rw [he] at h; exact h)
     have hbl := HX.out.wl.lt
     have fz2 := HX.out.wl.frozen 2
     have fz3 := HX.out.wl.frozen 3
     have c2 := HX.out.wl.cell 2
     have c3 := HX.out.wl.cell 3
     simp only [wlc, List.getElem?_toArray, List.getElem?_cons_zero, List.getElem?_cons_succ] at c2 c3
     clear he
     go_wp2_with fail
     refine bodyPost_ret (results_tmp rfl _ _ _) rfl ?_
     rw [HD.out, ← HB.out.1]
     refine ⟨rfl, S2, HX.out.set ?_ (((Step.refl [b] u3).setCell (p := ⟨b, 2, none⟩) (.inl (by simp)) _).setCell (p := ⟨b, 3, none⟩) (.inl (by simp)) _)⟩
     have hh := (HX.out.wl.set 2 (.int .i64 (L : Int))).set 3 (.int .i64 (z + (fn : Int)))
     simpa using hh
    ·have qe : (er != 0) = true := by simpa using he
     have HD : Hid (appendW ⟨f, L, z, false⟩ l s = (er, noteW ⟨f, L, z, false⟩ er, s2)) := Lib.hid (by rw [HAV.out, HPW.out, if_pos he])
     clear he
     go_wp2_with fail
     refine bodyPost_ret (results_tmp rfl _ _ _) rfl ?_
     rw [HD.out]
     exact ⟨rfl, S2, Q3.out⟩

end Go.Proofs.YtnkbphecabnnaaaGreatDoor
