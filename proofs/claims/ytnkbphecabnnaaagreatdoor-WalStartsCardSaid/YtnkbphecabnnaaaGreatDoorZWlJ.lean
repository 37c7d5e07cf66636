/-
 (*Wal).Start. Conditions: the library's tables; a disk that the operations keep; few and small records.
-/
import Derived.Test.YtnkbphecabnnaaaGreatDoorZWlI
namespace Go.Proofs.YtnkbphecabnnaaaGreatDoor
open Go.RowKit Go.Lib Go.Maps
set_option linter.unusedSimpArgs false
set_option linter.unusedVariables false
set_option maxRecDepth 100000

/-- What a Start makes of the disk. -/
def startT (f L : Nat) (z : Int) (l : List Rc) (s : St) : Int × Wl × St :=
 if (appendS s (fileW (L + 1)) (frameB (headRc l.length) ++ framesB l)).1 ≠ 0 then ((appendS s (fileW (L + 1)) (frameB (headRc l.length) ++ framesB l)).1, noteW ⟨f, L, z, false⟩ (appendS s (fileW (L + 1)) (frameB (headRc l.length) ++ framesB l)).1, (appendS s (fileW (L + 1)) (frameB (headRc l.length) ++ framesB l)).2)
 else startU f L z ((frameB (headRc l.length)).length + (framesB l).length) (appendS s (fileW (L + 1)) (frameB (headRc l.length) ++ framesB l)).2
where
 startU (f L : Nat) (z : Int) (q : Nat) (s : St) : Int × Wl × St :=
  if (syncS s (fileW (L + 1))).1 ≠ 0 then ((syncS s (fileW (L + 1))).1, noteW ⟨f, L, z, false⟩ (syncS s (fileW (L + 1))).1, (syncS s (fileW (L + 1))).2)
  else startV f L z q (if 0 < f then dropW f (L + 1 - f) (syncS s (fileW (L + 1))).2 else (0, (syncS s (fileW (L + 1))).2))
 startV (f L : Nat) (z : Int) (q : Nat) (r : Int × St) : Int × Wl × St :=
  if r.1 ≠ 0 then (r.1, noteW ⟨f, L, z, false⟩ r.1, r.2) else (0, ⟨((L + 1 : Nat) : Int), ((L + 1 : Nat) : Int), (q : Int), false⟩, r.2)
theorem start_eq (f L : Nat) (z : Int) (l : List Rc) (s : St) (hr : (l.all rightRc) = true) (hL : L + 1 ≤ 999999999999) : startS ⟨f, L, z, false⟩ l s = startT f L z l s := by
 unfold startS startT startT.startU startT.startV
 simp only [Bool.false_eq_true, if_false, hr, Bool.true_eq_false]
 rw [if_neg (by omega)]
 have e1 : ((L : Int) + 1).toNat = L + 1 := by omega
 have e2 : ((f : Int)).toNat = f := by omega
 have e3 : (0 < (f : Int)) = (0 < f) := by simp
 simp only [e1, e2, e3, List.length_append]
theorem wdrop_step (k m : Nat) (s : St) : dropW k (m + 1) s = if (removeS s (fileW k)).1 ≠ 0 then removeS s (fileW k) else dropW (k + 1) m (removeS s (fileW k)).2 := rfl
set_option maxHeartbeats 16000000 in
theorem wstart_any (w : World) (S : List Nat) (d b : Nat) (f L : Nat) (z : Int) (o : Bool) (s : St) (k : Nat) (hd : Dk w S d s) (hb : Blk w b 66 (wlc d ⟨f, L, z, o⟩)) (hnb : b ∉ S) (hO : Ok6 s k) (hk : k ≤ 1000) (hL : L ≤ 999999999999) (w0 : World) (hT : PTab w0) (hU : Tabs w0) (h0 : Step [] (b :: S) w0 w) (hfL : f ≤ L) (l : List Rc) (a : Option Addr) (cap : Nat) (hr : Rd w 5 a l.length (rcs l)) (hfew : FewRc l) : Calls Tryz.prog 15 #[.pointer (some ⟨b, 0, none⟩), .slice a l.length cap] w (WlP (startS ⟨f, L, z, o⟩ l s) S d b w) := by
 have HT := Lib.hid (And.intro hT (And.intro hU h0))
 have HO := Lib.hid hO
 have HL := Lib.hid hL
 have HR0 := Lib.hid hr
 have HF := Lib.hid hfew
 have HFL := Lib.hid hfL
 have hll : l.length ≤ 1000 := hfew.len
 have H0 : Hid (WM w w S S d b ⟨f, L, z, o⟩ s) := Lib.hid ⟨hd, hb, hnb, Step.refl _ _⟩
 clear hT hU h0 hO hd hnb hr hfew hfL
 have fc := hb.cell
 have c0 := fc 0
 have c1 := fc 1
 have c2 := fc 2
 have c3 := fc 3
 have c4 := fc 4
 clear fc
 simp only [wlc, List.getElem?_toArray, List.getElem?_cons_zero, List.getElem?_cons_succ] at c0 c1 c2 c3 c4
 clear hb
 cases o with
 | true =>
  go_enter Tryz.func15, Tryz.ntmps15
  go_wp2_with fail
  exact bodyPost_ret (results_tmp rfl _ _ _) rfl ⟨rfl, S, H0.out⟩
 | false =>
  obtain ⟨N, hN⟩ : ∃ N, N = l.length := ⟨_, rfl⟩
  have HN := Lib.hid hN
  rw [← hN] at hll ⊢
  clear hN
  go_enter Tryz.func15, Tryz.ntmps15
  go_wp2_with fail
  clear c0 c1 c2 c3 c4
  have hwf := wframes_any l a cap w HR0.out HF.out
  rw [← HN.out] at hwf
  refine hwf.mono ?_
  rintro e w1 ⟨fb, fn, fc, xs, rfl, frow, k1, hall⟩
  have H1 : Hid (WM w w1 S S d b ⟨f, L, z, false⟩ s) := Lib.hid (H0.out.quiet k1)
  have HFR : Hid (Row w1 1 fb fn fc xs ∧ ∀ g, g ∈ blks fb → g ∉ S ∧ g ≠ b) := Lib.hid ⟨frow, fun g hg => by
   rcases k1.fresh g hg with h1 | h1
   ·exact absurd h1 (by simp)
   ·exact ⟨fun hm => by have := H0.out.dk.lt g hm; omega, fun e => by have := H0.out.wl.lt; omega⟩⟩
  have HALL := Lib.hid hall
  clear frow k1 hall hwf
  cases har : l.all rightRc with
  | false =>
   have HD : Hid (startS ⟨f, L, z, false⟩ l s = (1, ⟨f, L, z, false⟩, s)) := Lib.hid (by unfold startS; simp [har])
   clear har
   go_wp2_with fail
   refine bodyPost_ret (results_tmp rfl _ _ _) rfl ?_
   rw [HD.out]
   exact ⟨rfl, S, H1.out⟩
  | true =>
   obtain ⟨hfn, hxs⟩ := HALL.out har
   have hfnl : fn ≤ 2053000 := by rw [hfn]; exact frames_few HF.out har
   have HB : Hid (fn = (framesB l).length ∧ xs = (framesB l).map bv) := Lib.hid ⟨hfn, hxs⟩
   have HAR := Lib.hid har
   clear hfn hxs har HALL
   go_wp2_with fail
   refine (wframe_any (headRc N) (headRc_ok (by omega)) w1).mono ?_
   rintro e w2 ⟨ha, hc, rfl, hrow, k2⟩
   have k20 : Step [] [] w1 w2 := k2.drop (by simp)
   obtain ⟨hb, hhb⟩ : ∃ hb, hb = frameB (headRc N) := ⟨_, rfl⟩
   have hhl : hb.length ≤ 53 := by rw [hhb]; have h1 := frame_len (headRc N); have h2 := pay_len (headRc_ok (n := N) (by omega)); have h3 : (headRc N).dt.length = 0 := rfl; omega
   have HHB := Lib.hid hhb
   rw [← hhb] at hrow ⊢
   clear hhb
   obtain ⟨hn, hhn⟩ : ∃ hn, hn = hb.length := ⟨_, rfl⟩
   have HHN := Lib.hid hhn
   rw [← hhn] at hrow hhl ⊢
   clear hhn
   have H2 : Hid (WM w w2 S S d b ⟨f, L, z, false⟩ s) := Lib.hid (H1.out.quiet k20)
   have HR2 : Hid (Row w2 1 ha hn hc (hb.map bv) ∧ Row w2 1 fb fn fc xs) := Lib.hid ⟨hrow, HFR.out.1.step k20 (by simp)⟩
   have HRA : Hid ((∀ g, g ∈ blks ha → g ∉ S ∧ g ≠ b)) := Lib.hid (fun g hg => by
    rcases k2.fresh g hg with h1 | h1
    ·exact absurd h1 (by simp)
    ·exact ⟨fun hm => by have := H1.out.dk.lt g hm; omega, fun e => by have := H1.out.wl.lt; omega⟩)
   clear hrow k2 k20 H1
   have fc := H2.out.wl.cell
   have c0 := fc 0
   have c1 := fc 1
   have c2 := fc 2
   have c3 := fc 3
   have c4 := fc 4
   clear fc
   simp only [wlc, List.getElem?_toArray, List.getElem?_cons_zero, List.getElem?_cons_succ] at c0 c1 c2 c3 c4
   by_cases hbig : 999999999999 < (L : Int) + 1
   ·have qb : decide (999999999999 < (L : Int) + 1) = true := decide_eq_true hbig
    have HD : Hid (startS ⟨f, L, z, false⟩ l s = (2, ⟨f, L, z, false⟩, s)) := Lib.hid (by unfold startS; simp only [Bool.false_eq_true, if_false, HAR.out, Bool.true_eq_false]; rw [if_pos hbig])
    clear hbig
    go_wp2_with fail
    refine bodyPost_ret (results_tmp rfl _ _ _) rfl ?_
    rw [HD.out]
    exact ⟨rfl, S, H2.out⟩
   have qb : decide (999999999999 < (L : Int) + 1) = false := decide_eq_false hbig
   have hL2 : L + 1 ≤ 999999999999 := by omega
   have HST : Hid (startS ⟨f, L, z, false⟩ l s = startT f L z l s) := Lib.hid (start_eq f L z l s HAR.out hL2)
   clear hbig
   go_upto_region 10 with fail
   clear qb c0 c1 c2 c3 c4
   obtain ⟨V, hV⟩ : ∃ V, V = w2.drew := ⟨_, rfl⟩
   have HM : Hid (WM w V S S d b ⟨f, L, z, false⟩ s) := Lib.hid (by rw [hV]; exact H2.out.drew)
   have HR : Hid (Row V 1 ha hn hc (hb.map bv) ∧ Row V 1 fb fn fc xs) := Lib.hid (by rw [hV]; exact ⟨HR2.out.1.step ((Step.refl [] w2).drew) (by simp), HR2.out.2.step ((Step.refl [] w2).drew) (by simp)⟩)
   have HRN : Hid ((∀ g, (g ∈ blks ha ∨ g ∈ blks fb) → g ∉ S) ∧ ∀ g, (g ∈ blks ha ∨ g ∈ blks fb) → g ≠ b) := Lib.hid ⟨fun g hg => by rcases hg with hg | hg; exact (HRA.out g hg).1; exact (HFR.out.2 g hg).1, fun g hg => by rcases hg with hg | hg; exact (HRA.out g hg).2; exact (HFR.out.2 g hg).2⟩
   clear H2 HR2
   refine wp_region_held_drew (S := fun W => Hid ((∃ o1, Blk W b 66 (wlc d ⟨f, L, z, o1⟩)) ∧ Row W 1 ha hn hc (hb.map bv) ∧ Row W 1 fb fn fc xs)) (by kernel_rfl) (by rw [← hV]; exact Lib.hid ⟨⟨_, HM.out.wl⟩, HR.out⟩) (fun hHeld => ?_)
   rw [← hV] at hHeld ⊢
   clear hV
   refine wpAnyH_take (i := 0) (v := ?_) rfl (by kernel_rfl) (by kernel_rfl) (by kernel_rfl) (fun _ _ _ h => h) (Or.inl ⟨by rfl, ?_⟩) hHeld ?_
   rotate_left
   ·intro w hSw1
    try dsimp only at hSw1
    go_simp
    try (with_reducible rfl)
   try simp only [Act.put, LsA, LsB, LsC, LsD, LsE, LsF]
   refine wpAnyH_take (i := 1) (v := ?_) rfl (by kernel_rfl) (by kernel_rfl) (by kernel_rfl) (fun _ _ _ h => h) (Or.inl ⟨by rfl, ?_⟩) hHeld ?_
   rotate_left
   ·intro w hSw1
    try dsimp only at hSw1
    go_simp
    try (with_reducible rfl)
   try simp only [Act.put, LsA, LsB, LsC, LsD, LsE, LsF]
   refine wpAnyH_take (i := 2) (v := ?_) rfl (by kernel_rfl) (by kernel_rfl) (by kernel_rfl) (fun _ _ _ h => h) (Or.inl ⟨by rfl, ?_⟩) hHeld ?_
   rotate_left
   ·intro w hSw1
    try dsimp only at hSw1
    go_simp
    try (with_reducible rfl)
   try simp only [Act.put, LsA, LsB, LsC, LsD, LsE, LsF]
   refine wpAnyH_take (i := 3) (v := ?_) rfl (by kernel_rfl) (by kernel_rfl) (by kernel_rfl) (fun _ _ _ h => h) (Or.inl ⟨by rfl, ?_⟩) hHeld ?_
   rotate_left
   ·intro w hSw1
    try dsimp only at hSw1
    go_simp
    try (with_reducible rfl)
   try simp only [Act.put, LsA, LsB, LsC, LsD, LsE, LsF]
   refine wpAnyH_take (i := 4) (v := ?_) rfl (by kernel_rfl) (by kernel_rfl) (by kernel_rfl) (fun _ _ _ h => h) (Or.inl ⟨by rfl, ?_⟩) hHeld ?_
   rotate_left
   ·intro w hSw1
    obtain ⟨o1, hx1⟩ := hSw1.out.1
    have fc := hx1.cell
    have c0 := fc 0
    have c1 := fc 1
    have c2 := fc 2
    have c3 := fc 3
    have c4 := fc 4
    clear fc
    simp only [wlc, List.getElem?_toArray, List.getElem?_cons_zero, List.getElem?_cons_succ] at c0 c1 c2 c3 c4
    go_simp
    try (with_reducible rfl)
   try simp only [Act.put, LsA, LsB, LsC, LsD, LsE, LsF]
   refine wpAnyH_take (i := 5) (v := ?_) rfl (by kernel_rfl) (by kernel_rfl) (by kernel_rfl) (fun _ _ _ h => h) (Or.inl ⟨by rfl, ?_⟩) hHeld ?_
   rotate_left
   ·intro w hSw1
    try dsimp only at hSw1
    go_simp
    try (with_reducible rfl)
   try simp only [Act.put, LsA, LsB, LsC, LsD, LsE, LsF]
   refine wpAnyH_take (i := 7) (v := ?_) rfl (by kernel_rfl) (by kernel_rfl) (by kernel_rfl) (fun _ _ _ h => h) (Or.inl ⟨by rfl, ?_⟩) hHeld ?_
   rotate_left
   ·intro w hSw1
    try dsimp only at hSw1
    go_simp
    try (with_reducible rfl)
   try simp only [Act.put, LsA, LsB, LsC, LsD, LsE, LsF]
   refine wpAnyH_take (i := 8) (v := ?_) rfl (by kernel_rfl) (by kernel_rfl) (by kernel_rfl) (fun _ _ _ h => h) (Or.inl ⟨by rfl, ?_⟩) hHeld ?_
   rotate_left
   ·intro w hSw1
    have hs := run_str_of_row (P := Tryz.prog) 22 9 5 Tryz.underlying22 Tryz.underlying5 Tryz.underlying9 (show Row w 1 ha hb.length hc (hb.map bv) by have h := hSw1.out.2.1; rwa [HHN.out] at h)
    rw [← HHN.out] at hs
    go_simp
    try (with_reducible rfl)
   try simp only [Act.put, LsA, LsB, LsC, LsD, LsE, LsF]
   refine wpAnyH_take (i := 9) (v := ?_) rfl (by kernel_rfl) (by kernel_rfl) (by kernel_rfl) (fun _ _ _ h => h) (Or.inl ⟨by rfl, ?_⟩) hHeld ?_
   rotate_left
   ·intro w hSw1
    try dsimp only at hSw1
    go_simp
    try (with_reducible rfl)
   try simp only [Act.put, LsA, LsB, LsC, LsD, LsE, LsF]
   refine wpAnyH_take (i := 10) (v := ?_) rfl (by kernel_rfl) (by kernel_rfl) (by kernel_rfl) (fun _ _ _ h => h) (Or.inl ⟨by rfl, ?_⟩) hHeld ?_
   rotate_left
   ·intro w hSw1
    have hs := run_str_of_row (P := Tryz.prog) 22 9 5 Tryz.underlying22 Tryz.underlying5 Tryz.underlying9 (show Row w 1 fb (framesB l).length fc ((framesB l).map bv) by have h := hSw1.out.2.2; rwa [HB.out.1, HB.out.2] at h)
    rw [← HB.out.1] at hs
    go_simp
    try (with_reducible rfl)
   try simp only [Act.put, LsA, LsB, LsC, LsD, LsE, LsF]
   refine wpAnyH_take (i := 11) (v := ?_) rfl (by kernel_rfl) (by kernel_rfl) (by kernel_rfl) (fun _ _ _ h => h) (Or.inl ⟨by rfl, ?_⟩) hHeld ?_
   rotate_left
   ·intro w hSw1
    have hcl : hb.length + (framesB l).length ≤ 9223372036854775807 := by rw [← HHN.out, ← HB.out.1]; omega
    go_simp
    try (with_reducible rfl)
   try simp only [Act.put, LsA, LsB, LsC, LsD, LsE, LsF]
   refine wpAnyH_ready (rs := [6]) (by kernel_rfl) (by simp) ?_
   refine AllReadyH.cons rfl (fun K hK => ?_) AllReadyH.nil
   go_simp
   refine (wfile_any (L + 1) hL2 V (HT.out.1.step (HT.out.2.2.trans HM.out.st))).mono ?_; rintro e1 u1 ⟨rfl, k1⟩; have Q1 := Lib.hid (HM.out.quiet k1); have HR1 := Lib.hid (And.intro (HR.out.1.step k1 (by simp)) (HR.out.2.step k1 (by simp))); clear k1
   go_wp2_with fail
   refine hK.out _ _ (Lib.hid ⟨⟨_, Q1.out.wl⟩, HR1.out⟩) (fun hHeld2 => ?_)
   clear hK K hHeld
   try simp only [Act.put, LsA, LsB, LsC, LsD, LsE, LsF]
   refine wpAnyH_ready (rs := [12]) (by kernel_rfl) (by simp) ?_
   refine AllReadyH.cons rfl (fun K hK => ?_) AllReadyH.nil
   go_simp
   refine (append_any (fileW (L + 1)) (hb ++ framesB l) u1 S d s Q1.out.dk HO.out.b (HT.out.2.1.step (HT.out.2.2.trans Q1.out.st)) ⟨by rw [fileW_len]; omega, by rw [List.length_append, ← HHN.out, ← HB.out.1]; omega⟩).mono ?_; rintro e2 u2 ⟨rfl, S2, hd2, k2⟩; obtain ⟨er, her⟩ : ∃ er, er = (appendS s (fileW (L + 1)) (hb ++ framesB l)).1 := ⟨_, rfl⟩; obtain ⟨s2, hs2⟩ : ∃ s2, s2 = (appendS s (fileW (L + 1)) (hb ++ framesB l)).2 := ⟨_, rfl⟩; have HER := Lib.hid (And.intro her hs2); rw [← hs2] at hd2; rw [← her]; clear her hs2; have Q2 := Lib.hid (Q1.out.turn hd2 k2); have HR2 := Lib.hid (And.intro (HR1.out.1.step k2 (fun g hg => HRN.out.1 g (.inl hg))) (HR1.out.2.step k2 (fun g hg => HRN.out.1 g (.inr hg)))); clear hd2 k2
   go_wp2_with fail
   refine hK.out _ _ (Lib.hid ⟨⟨_, Q2.out.wl⟩, HR2.out⟩) (fun hHeld3 => ?_)
   clear hK K hHeld2
   try simp only [Act.put, LsA, LsB, LsC, LsD, LsE, LsF]
   refine wpAnyH_ready (rs := [13]) (by kernel_rfl) (by simp) ?_
   refine AllReadyH.cons rfl (fun K hK => ?_) AllReadyH.nil
   go_simp
   refine (wnote_any u2 b d ⟨f, L, z, false⟩ er Q2.out.wl).mono ?_; rintro e3 u3 ⟨rfl, hb3, k3⟩; have Q3 := Lib.hid (Q2.out.set hb3 k3); have HR3 := Lib.hid (And.intro (HR2.out.1.step k3 (fun g hg hm => HRN.out.2 g (.inl hg) (by simpa using hm))) (HR2.out.2.step k3 (fun g hg hm => HRN.out.2 g (.inr hg) (by simpa using hm)))); clear hb3 k3
   go_wp2_with fail
   refine hK.out _ _ (Lib.hid ⟨⟨_, (by have h := Q3.out.wl; rw [noteW_form] at h; exact h)⟩, HR3.out⟩) (fun hHeld4 => ?_)
   clear hK K hHeld3
   try simp only [Act.put, LsA, LsB, LsC, LsD, LsE, LsF]
   refine wpAnyH_take (i := 14) (v := ?_) rfl (by kernel_rfl) (by kernel_rfl) (by kernel_rfl) (fun _ _ _ h => h) (Or.inl ⟨by rfl, ?_⟩) hHeld4 ?_
   rotate_left
   ·intro w hSw1
    try dsimp only at hSw1
    go_simp
    try (with_reducible rfl)
   try simp only [Act.put, LsA, LsB, LsC, LsD, LsE, LsF]
   refine wpAnyH_done (by kernel_rfl) ?_ _
   have HERX : Hid (er = (appendS s (fileW (L + 1)) (frameB (headRc l.length) ++ framesB l)).1 ∧ s2 = (appendS s (fileW (L + 1)) (frameB (headRc l.length) ++ framesB l)).2) := Lib.hid (by have h := HER.out; rwa [HHB.out, HN.out] at h)
   by_cases he : er = 0
   ·have qe : (er != 0) = false := by simpa using he
    have HX : Hid (WM w u3 S S2 d b ⟨f, L, z, false⟩ s2) := Lib.hid (by have h := Q3.out; rw [he] at h; exact h)
    have HSX : Hid (startS ⟨f, L, z, false⟩ l s = startT.startU f L z ((frameB (headRc l.length)).length + (framesB l).length) s2) := Lib.hid (by rw [HST.out]; unfold startT; rw [← HERX.out.1, ← HERX.out.2, if_neg (by simpa using he)])
    have HOX : Hid (Ok6 s2 (k + 1)) := Lib.hid (by rw [HER.out.2]; exact ok_append HO.out H0.out.dk.ris _ _ (by rw [fileW_len]; omega) (by omega))
    obtain ⟨WB, hwn⟩ : ∃ WB, WB = u3 := ⟨_, rfl⟩
    obtain ⟨SB, hsn⟩ : ∃ SB : List Nat, SB = S2 := ⟨_, rfl⟩
    obtain ⟨sB, hssn⟩ : ∃ sB, sB = s2 := ⟨_, rfl⟩
    rw [← hwn, ← hsn, ← hssn] at HX
    rw [← hssn] at HSX HOX
    rw [← hwn]
    clear hwn hsn hssn he HER Q1 Q2 Q3 HM HERX HR HR1 HR2 HR3 HST hHeld4
    go_upto_region 13 with fail
    obtain ⟨V2, hV⟩ : ∃ V2, V2 = WB.drew := ⟨_, rfl⟩
    have HM : Hid (WM w V2 S SB d b ⟨f, L, z, false⟩ sB) := Lib.hid (by rw [hV]; exact HX.out.drew)
    refine wp_region_held_drew (S := fun W => Hid ((∃ o1, Blk W b 66 (wlc d ⟨f, L, z, o1⟩)))) (by kernel_rfl) (by rw [← hV]; exact Lib.hid ⟨_, HM.out.wl⟩) (fun hHeld => ?_)
    rw [← hV] at hHeld ⊢
    clear hV
    refine wpAnyH_take (i := 0) (v := ?_) rfl (by kernel_rfl) (by kernel_rfl) (by kernel_rfl) (fun _ _ _ h => h) (Or.inl ⟨by rfl, ?_⟩) hHeld ?_
    rotate_left
    ·intro w hSw1
     try dsimp only at hSw1
     go_simp
     try (with_reducible rfl)
    try simp only [Act.put, LsA, LsB, LsC, LsD, LsE, LsF]
    refine wpAnyH_take (i := 1) (v := ?_) rfl (by kernel_rfl) (by kernel_rfl) (by kernel_rfl) (fun _ _ _ h => h) (Or.inl ⟨by rfl, ?_⟩) hHeld ?_
    rotate_left
    ·intro w hSw1
     try dsimp only at hSw1
     go_simp
     try (with_reducible rfl)
    try simp only [Act.put, LsA, LsB, LsC, LsD, LsE, LsF]
    refine wpAnyH_take (i := 2) (v := ?_) rfl (by kernel_rfl) (by kernel_rfl) (by kernel_rfl) (fun _ _ _ h => h) (Or.inl ⟨by rfl, ?_⟩) hHeld ?_
    rotate_left
    ·intro w hSw1
     try dsimp only at hSw1
     go_simp
     try (with_reducible rfl)
    try simp only [Act.put, LsA, LsB, LsC, LsD, LsE, LsF]
    refine wpAnyH_take (i := 3) (v := ?_) rfl (by kernel_rfl) (by kernel_rfl) (by kernel_rfl) (fun _ _ _ h => h) (Or.inl ⟨by rfl, ?_⟩) hHeld ?_
    rotate_left
    ·intro w hSw1
     try dsimp only at hSw1
     go_simp
     try (with_reducible rfl)
    try simp only [Act.put, LsA, LsB, LsC, LsD, LsE, LsF]
    refine wpAnyH_take (i := 4) (v := ?_) rfl (by kernel_rfl) (by kernel_rfl) (by kernel_rfl) (fun _ _ _ h => h) (Or.inl ⟨by rfl, ?_⟩) hHeld ?_
    rotate_left
    ·intro w hSw1
     obtain ⟨o1, hx1⟩ := hSw1.out
     have fc := hx1.cell
     have c0 := fc 0
     have c1 := fc 1
     have c2 := fc 2
     have c3 := fc 3
     have c4 := fc 4
     clear fc
     simp only [wlc, List.getElem?_toArray, List.getElem?_cons_zero, List.getElem?_cons_succ] at c0 c1 c2 c3 c4
     go_simp
     try (with_reducible rfl)
    try simp only [Act.put, LsA, LsB, LsC, LsD, LsE, LsF]
    refine wpAnyH_take (i := 5) (v := ?_) rfl (by kernel_rfl) (by kernel_rfl) (by kernel_rfl) (fun _ _ _ h => h) (Or.inl ⟨by rfl, ?_⟩) hHeld ?_
    rotate_left
    ·intro w hSw1
     try dsimp only at hSw1
     go_simp
     try (with_reducible rfl)
    try simp only [Act.put, LsA, LsB, LsC, LsD, LsE, LsF]
    refine wpAnyH_ready (rs := [6]) (by kernel_rfl) (by simp) ?_
    refine AllReadyH.cons rfl (fun K hK => ?_) AllReadyH.nil
    go_simp
    refine (wfile_any (L + 1) hL2 V2 (HT.out.1.step (HT.out.2.2.trans HM.out.st))).mono ?_; rintro e1 u1 ⟨rfl, k1⟩; have Q1 := Lib.hid (HM.out.quiet k1); clear k1
    go_wp2_with fail
    refine hK.out _ _ (Lib.hid ⟨_, Q1.out.wl⟩) (fun hHeld2 => ?_)
    clear hK K hHeld
    try simp only [Act.put, LsA, LsB, LsC, LsD, LsE, LsF]
    refine wpAnyH_ready (rs := [7]) (by kernel_rfl) (by simp) ?_
    refine AllReadyH.cons rfl (fun K hK => ?_) AllReadyH.nil
    go_simp
    refine (sync_any (fileW (L + 1)) u1 SB d sB Q1.out.dk HOX.out.b (by rw [fileW_len]; omega)).mono ?_; rintro e2 u2 ⟨rfl, S2, hd2, k2⟩; obtain ⟨er, her⟩ : ∃ er, er = (syncS sB (fileW (L + 1))).1 := ⟨_, rfl⟩; obtain ⟨s2, hs2⟩ : ∃ s2, s2 = (syncS sB (fileW (L + 1))).2 := ⟨_, rfl⟩; have HER := Lib.hid (And.intro her hs2); rw [← hs2] at hd2; rw [← her]; clear her hs2; have Q2 := Lib.hid (Q1.out.turn hd2 k2); clear hd2 k2
    go_wp2_with fail
    refine hK.out _ _ (Lib.hid ⟨_, Q2.out.wl⟩) (fun hHeld3 => ?_)
    clear hK K hHeld2
    try simp only [Act.put, LsA, LsB, LsC, LsD, LsE, LsF]
    refine wpAnyH_ready (rs := [8]) (by kernel_rfl) (by simp) ?_
    refine AllReadyH.cons rfl (fun K hK => ?_) AllReadyH.nil
    go_simp
    refine (wnote_any u2 b d ⟨f, L, z, false⟩ er Q2.out.wl).mono ?_; rintro e3 u3 ⟨rfl, hb3, k3⟩; have Q3 := Lib.hid (Q2.out.set hb3 k3); clear hb3 k3
    go_wp2_with fail
    refine hK.out _ _ (Lib.hid ⟨_, (by have h := Q3.out.wl; rw [noteW_form] at h; exact h)⟩) (fun hHeld4 => ?_)
    clear hK K hHeld3
    try simp only [Act.put, LsA, LsB, LsC, LsD, LsE, LsF]
    refine wpAnyH_take (i := 9) (v := ?_) rfl (by kernel_rfl) (by kernel_rfl) (by kernel_rfl) (fun _ _ _ h => h) (Or.inl ⟨by rfl, ?_⟩) hHeld4 ?_
    rotate_left
    ·intro w hSw1
     try dsimp only at hSw1
     go_simp
     try (with_reducible rfl)
    try simp only [Act.put, LsA, LsB, LsC, LsD, LsE, LsF]
    refine wpAnyH_done (by kernel_rfl) ?_ _
    by_cases he : er = 0
    ·have qe : (er != 0) = false := by simpa using he
     have HZ : Hid (WM w u3 S S2 d b ⟨f, L, z, false⟩ s2) := Lib.hid (by have h := Q3.out; rw [he] at h; exact h)
     have HSY : Hid (startS ⟨f, L, z, false⟩ l s = startT.startV f L z ((frameB (headRc l.length)).length + (framesB l).length) (if 0 < f then dropW f (L + 1 - f) s2 else (0, s2))) := Lib.hid (by rw [HSX.out]; unfold startT.startU; rw [← HER.out.1, ← HER.out.2, if_neg (by simpa using he)])
     have HOY : Hid (Ok6 s2 (k + 1 + 1)) := Lib.hid (by rw [HER.out.2]; exact ok_more (ok_sync HOX.out _))
     obtain ⟨WC, hwn⟩ : ∃ WC, WC = u3 := ⟨_, rfl⟩
     obtain ⟨SC, hsn⟩ : ∃ SC : List Nat, SC = S2 := ⟨_, rfl⟩
     obtain ⟨sC, hssn⟩ : ∃ sC, sC = s2 := ⟨_, rfl⟩
     rw [← hwn, ← hsn, ← hssn] at HZ
     rw [← hssn] at HSY HOY
     rw [← hwn]
     clear hwn hsn hssn he HER Q1 Q2 Q3 HM HX HSX HOX hHeld4
     have HX := HZ
     have HSX := HSY
     have HOX := HOY
     clear HZ HSY HOY
     have HFQ : Hid (fn = (framesB l).length ∧ hn = (frameB (headRc l.length)).length) := Lib.hid ⟨HB.out.1, by rw [HHN.out, HHB.out, HN.out]⟩
     have fc := HX.out.wl.cell
     have c0 := fc 0
     have c1 := fc 1
     have c2 := fc 2
     have c3 := fc 3
     have c4 := fc 4
     clear fc
     simp only [wlc, List.getElem?_toArray, List.getElem?_cons_zero, List.getElem?_cons_succ] at c0 c1 c2 c3 c4
     by_cases hf0 : f = 0
     ·have HSE : Hid (startS ⟨f, L, z, false⟩ l s = (0, ⟨((L + 1 : Nat) : Int), ((L + 1 : Nat) : Int), (((frameB (headRc l.length)).length + (framesB l).length : Nat) : Int), false⟩, sC)) := Lib.hid (by rw [HSX.out, if_neg (by omega)]; rfl)
      subst hf0
      go_upto_region 17 with fail
      refine wp_loop_rounds 1 ?_
      rw [rounds_succ]
      go_upto_region 22 with fail
      clear c0 c1 c2 c3 c4
      have hbl := HX.out.wl.lt
      have fz1 := HX.out.wl.frozen 1
      have fz2 := HX.out.wl.frozen 2
      have fz3 := HX.out.wl.frozen 3
      have c1 := HX.out.wl.cell 1
      have c2 := HX.out.wl.cell 2
      have c3 := HX.out.wl.cell 3
      simp only [wlc, List.getElem?_toArray, List.getElem?_cons_zero, List.getElem?_cons_succ] at c1 c2 c3
      go_wp2_with fail
      refine bodyPost_ret (results_tmp rfl _ _ _) rfl ?_
      rw [HSE.out, ← HFQ.out.1, ← HFQ.out.2]
      refine ⟨rfl, SC, HX.out.set ?_ ((((Step.refl [b] WC).setCell (p := ⟨b, 1, none⟩) (.inl (by simp)) _).setCell (p := ⟨b, 2, none⟩) (.inl (by simp)) _).setCell (p := ⟨b, 3, none⟩) (.inl (by simp)) _)⟩
      have hh := ((HX.out.wl.set 1 (.int .i64 ((L + 1 : Nat) : Int))).set 2 (.int .i64 ((L + 1 : Nat) : Int))).set 3 (.int .i64 ((hn + fn : Nat) : Int))
      simpa using hh
     ·have hf1 : 1 ≤ f := by omega
      obtain ⟨m, hm⟩ : ∃ m, m = L + 1 - f := ⟨_, rfl⟩
      have hfm : f + m = L + 1 := by have := HFL.out; omega
      have HSV : Hid (startS ⟨f, L, z, false⟩ l s = startT.startV f L z ((frameB (headRc l.length)).length + (framesB l).length) (dropW f m sC)) := Lib.hid (by rw [HSX.out, if_pos (by omega), ← hm])
      clear hf0 hm HSX
      go_upto_region 17 with fail
      clear c0 c1 c2 c3 c4
      go_loopw [11] (fun v Wx => ∃ (j : Nat) (sJ : St), v = .int .i64 ((f + j : Nat) : Int) ∧ j ≤ m ∧ Hid (∃ SJ, WM w Wx S SJ d b ⟨f, L, z, false⟩ sJ ∧ Ok6 sJ (k + 1 + 1) ∧ dropW f m sC = dropW (f + j) (m - j) sJ)) (fun v _ => m - ((intOf v).toNat - f))
      case atStart => exact ⟨0, sC, rfl, by omega, Lib.hid ⟨SC, HX.out, HOX.out, rfl⟩⟩
      case round =>
       rename World => Wr
       obtain ⟨j, sJ, rfl, hj, HW⟩ := hrel
       obtain ⟨SJ, hWM, hOJ, hDJ⟩ := HW.out
       have HM0 := Lib.hid hWM
       have HOJ := Lib.hid hOJ
       have HDJ := Lib.hid hDJ
       clear hWM hOJ hDJ HW HX HOX
       have fc := HM0.out.wl.cell
       have c0 := fc 0
       have c1 := fc 1
       have c2 := fc 2
       have c3 := fc 3
       have c4 := fc 4
       clear fc
       simp only [wlc, List.getElem?_toArray, List.getElem?_cons_zero, List.getElem?_cons_succ] at c0 c1 c2 c3 c4
       by_cases hlt : j < m
       ·have hlt2 : ((f + j : Nat) : Int) < (L : Int) + 1 := by omega
        have hlt3 : f + j < L + 1 := by omega
        have hfj : f + j ≤ 999999999999 := by omega
        obtain ⟨q, hq⟩ : ∃ q, m - j = q + 1 := ⟨m - j - 1, by omega⟩
        have HDK : Hid (dropW f m sC = if (removeS sJ (fileW (f + j))).1 ≠ 0 then removeS sJ (fileW (f + j)) else dropW (f + j + 1) (m - (j + 1)) (removeS sJ (fileW (f + j))).2) := Lib.hid (by rw [HDJ.out, hq, wdrop_step, show m - (j + 1) = q by omega])
        clear hq HDJ
        go_upto_region 19 with fail
        clear c0 c1 c2 c3 c4
        obtain ⟨V, hV⟩ : ∃ V, V = Wr.drew := ⟨_, rfl⟩
        have HM : Hid (WM w V S SJ d b ⟨f, L, z, false⟩ sJ) := Lib.hid (by rw [hV]; exact HM0.out.drew)
        clear HM0
        refine wp_region_held_drew (S := fun W => Hid ((∃ o1, Blk W b 66 (wlc d ⟨f, L, z, o1⟩)))) (by kernel_rfl) (by rw [← hV]; exact Lib.hid ⟨_, HM.out.wl⟩) (fun hHeld => ?_)
        rw [← hV] at hHeld ⊢
        clear hV
        refine wpAnyH_take (i := 0) (v := ?_) rfl (by kernel_rfl) (by kernel_rfl) (by kernel_rfl) (fun _ _ _ h => h) (Or.inl ⟨by rfl, ?_⟩) hHeld ?_
        rotate_left
        ·intro w hSw1
         try dsimp only at hSw1
         go_simp
         try (with_reducible rfl)
        try simp only [Act.put, LsA, LsB, LsC, LsD, LsE, LsF]
        refine wpAnyH_take (i := 1) (v := ?_) rfl (by kernel_rfl) (by kernel_rfl) (by kernel_rfl) (fun _ _ _ h => h) (Or.inl ⟨by rfl, ?_⟩) hHeld ?_
        rotate_left
        ·intro w hSw1
         try dsimp only at hSw1
         go_simp
         try (with_reducible rfl)
        try simp only [Act.put, LsA, LsB, LsC, LsD, LsE, LsF]
        refine wpAnyH_take (i := 2) (v := ?_) rfl (by kernel_rfl) (by kernel_rfl) (by kernel_rfl) (fun _ _ _ h => h) (Or.inl ⟨by rfl, ?_⟩) hHeld ?_
        rotate_left
        ·intro w hSw1
         try dsimp only at hSw1
         go_simp
         try (with_reducible rfl)
        try simp only [Act.put, LsA, LsB, LsC, LsD, LsE, LsF]
        refine wpAnyH_take (i := 3) (v := ?_) rfl (by kernel_rfl) (by kernel_rfl) (by kernel_rfl) (fun _ _ _ h => h) (Or.inl ⟨by rfl, ?_⟩) hHeld ?_
        rotate_left
        ·intro w hSw1
         try dsimp only at hSw1
         go_simp
         try (with_reducible rfl)
        try simp only [Act.put, LsA, LsB, LsC, LsD, LsE, LsF]
        refine wpAnyH_take (i := 4) (v := ?_) rfl (by kernel_rfl) (by kernel_rfl) (by kernel_rfl) (fun _ _ _ h => h) (Or.inl ⟨by rfl, ?_⟩) hHeld ?_
        rotate_left
        ·intro w hSw1
         obtain ⟨o1, hx1⟩ := hSw1.out
         have fc := hx1.cell
         have c0 := fc 0
         have c1 := fc 1
         have c2 := fc 2
         have c3 := fc 3
         have c4 := fc 4
         clear fc
         simp only [wlc, List.getElem?_toArray, List.getElem?_cons_zero, List.getElem?_cons_succ] at c0 c1 c2 c3 c4
         go_simp
         try (with_reducible rfl)
        try simp only [Act.put, LsA, LsB, LsC, LsD, LsE, LsF]
        refine wpAnyH_take (i := 5) (v := ?_) rfl (by kernel_rfl) (by kernel_rfl) (by kernel_rfl) (fun _ _ _ h => h) (Or.inl ⟨by rfl, ?_⟩) hHeld ?_
        rotate_left
        ·intro w hSw1
         try dsimp only at hSw1
         go_simp
         try (with_reducible rfl)
        try simp only [Act.put, LsA, LsB, LsC, LsD, LsE, LsF]
        refine wpAnyH_ready (rs := [6]) (by kernel_rfl) (by simp) ?_
        refine AllReadyH.cons rfl (fun K hK => ?_) AllReadyH.nil
        go_simp
        refine (wfile_any (f + j) hfj V (HT.out.1.step (HT.out.2.2.trans HM.out.st))).mono ?_; rintro e1 u1 ⟨rfl, k1⟩; have Q1 := Lib.hid (HM.out.quiet k1); clear k1
        go_wp2_with fail
        refine hK.out _ _ (Lib.hid ⟨_, Q1.out.wl⟩) (fun hHeld2 => ?_)
        clear hK K hHeld
        try simp only [Act.put, LsA, LsB, LsC, LsD, LsE, LsF]
        refine wpAnyH_ready (rs := [7]) (by kernel_rfl) (by simp) ?_
        refine AllReadyH.cons rfl (fun K hK => ?_) AllReadyH.nil
        go_simp
        refine (remove_any (fileW (f + j)) u1 SJ d sJ Q1.out.dk HOJ.out.b (by rw [fileW_len]; omega)).mono ?_; rintro e2 u2 ⟨rfl, S2, hd2, k2⟩; obtain ⟨er, her⟩ : ∃ er, er = (removeS sJ (fileW (f + j))).1 := ⟨_, rfl⟩; obtain ⟨s2, hs2⟩ : ∃ s2, s2 = (removeS sJ (fileW (f + j))).2 := ⟨_, rfl⟩; have HER := Lib.hid (And.intro her hs2); rw [← hs2] at hd2; rw [← her]; clear her hs2; have Q2 := Lib.hid (Q1.out.turn hd2 k2); clear hd2 k2
        go_wp2_with fail
        refine hK.out _ _ (Lib.hid ⟨_, Q2.out.wl⟩) (fun hHeld3 => ?_)
        clear hK K hHeld2
        try simp only [Act.put, LsA, LsB, LsC, LsD, LsE, LsF]
        refine wpAnyH_ready (rs := [8]) (by kernel_rfl) (by simp) ?_
        refine AllReadyH.cons rfl (fun K hK => ?_) AllReadyH.nil
        go_simp
        refine (wnote_any u2 b d ⟨f, L, z, false⟩ er Q2.out.wl).mono ?_; rintro e3 u3 ⟨rfl, hb3, k3⟩; have Q3 := Lib.hid (Q2.out.set hb3 k3); clear hb3 k3
        go_wp2_with fail
        refine hK.out _ _ (Lib.hid ⟨_, (by have h := Q3.out.wl; rw [noteW_form] at h; exact h)⟩) (fun hHeld4 => ?_)
        clear hK K hHeld3
        try simp only [Act.put, LsA, LsB, LsC, LsD, LsE, LsF]
        refine wpAnyH_take (i := 9) (v := ?_) rfl (by kernel_rfl) (by kernel_rfl) (by kernel_rfl) (fun _ _ _ h => h) (Or.inl ⟨by rfl, ?_⟩) hHeld4 ?_
        rotate_left
        ·intro w hSw1
         try dsimp only at hSw1
         go_simp
         try (with_reducible rfl)
        try simp only [Act.put, LsA, LsB, LsC, LsD, LsE, LsF]
        refine wpAnyH_done (by kernel_rfl) ?_ _
        by_cases he : er = 0
        ·have qe : (er != 0) = false := by simpa using he
         have HN9 : Hid (∃ SJ, WM w u3 S SJ d b ⟨f, L, z, false⟩ s2 ∧ Ok6 s2 (k + 1 + 1) ∧ dropW f m sC = dropW (f + (j + 1)) (m - (j + 1)) s2) := Lib.hid ⟨S2, by have h := Q3.out; rw [he] at h; exact h, by rw [HER.out.2]; exact ok_remove HOJ.out _, by rw [HDK.out, ← HER.out.1, ← HER.out.2, if_neg (by simpa using he)]; rfl⟩
         clear he HER Q1 Q2 Q3 HM HDK HOJ hHeld4
         go_wp2_with fail
         go_roundw
         case rel => exact ⟨j + 1, s2, by go_num, by omega, HN9⟩
         case measure => simp [intOf]; omega
        ·have qe : (er != 0) = true := by simpa using he
         have HD : Hid (startS ⟨f, L, z, false⟩ l s = (er, noteW ⟨f, L, z, false⟩ er, s2)) := Lib.hid (by rw [HSV.out, HDK.out, ← HER.out.1, if_pos he]; unfold startT.startV; rw [← HER.out.1, ← HER.out.2, if_pos he])
         clear he
         go_wp2_with fail
         refine bodyPost_ret (results_tmp rfl _ _ _) rfl ?_
         rw [HD.out]
         exact ⟨rfl, S2, Q3.out⟩
       ·obtain rfl : j = m := by omega
        have hlt2 : ¬ ((f + j : Nat) : Int) < (L : Int) + 1 := by omega
        have hlt3 : ¬ f + j < L + 1 := by omega
        have HSE : Hid (startS ⟨f, L, z, false⟩ l s = (0, ⟨((L + 1 : Nat) : Int), ((L + 1 : Nat) : Int), (((frameB (headRc l.length)).length + (framesB l).length : Nat) : Int), false⟩, sJ)) := Lib.hid (by rw [HSV.out, HDJ.out, Nat.sub_self]; rfl)
        go_upto_region 22 with fail
        clear c0 c1 c2 c3 c4
        have hbl := HM0.out.wl.lt
        have fz1 := HM0.out.wl.frozen 1
        have fz2 := HM0.out.wl.frozen 2
        have fz3 := HM0.out.wl.frozen 3
        have c1 := HM0.out.wl.cell 1
        have c2 := HM0.out.wl.cell 2
        have c3 := HM0.out.wl.cell 3
        simp only [wlc, List.getElem?_toArray, List.getElem?_cons_zero, List.getElem?_cons_succ] at c1 c2 c3
        go_wp2_with fail
        refine bodyPost_ret (results_tmp rfl _ _ _) rfl ?_
        rw [HSE.out, ← HFQ.out.1, ← HFQ.out.2]
        refine ⟨rfl, SJ, HM0.out.set ?_ ((((Step.refl [b] Wr).setCell (p := ⟨b, 1, none⟩) (.inl (by simp)) _).setCell (p := ⟨b, 2, none⟩) (.inl (by simp)) _).setCell (p := ⟨b, 3, none⟩) (.inl (by simp)) _)⟩
        have hh := ((HM0.out.wl.set 1 (.int .i64 ((L + 1 : Nat) : Int))).set 2 (.int .i64 ((L + 1 : Nat) : Int))).set 3 (.int .i64 ((hn + fn : Nat) : Int))
        simpa using hh
    ·have qe : (er != 0) = true := by simpa using he
     have HD : Hid (startS ⟨f, L, z, false⟩ l s = (er, noteW ⟨f, L, z, false⟩ er, s2)) := Lib.hid (by rw [HSX.out]; unfold startT.startU; rw [← HER.out.1, ← HER.out.2, if_pos he])
     clear he
     go_wp2_with fail
     refine bodyPost_ret (results_tmp rfl _ _ _) rfl ?_
     rw [HD.out]
     exact ⟨rfl, S2, Q3.out⟩
   ·have qe : (er != 0) = true := by simpa using he
    have HD : Hid (startS ⟨f, L, z, false⟩ l s = (er, noteW ⟨f, L, z, false⟩ er, s2)) := Lib.hid (by rw [HST.out]; unfold startT; rw [← HERX.out.1, ← HERX.out.2, if_pos he])
    clear he
    go_wp2_with fail
    refine bodyPost_ret (results_tmp rfl _ _ _) rfl ?_
    rw [HD.out]
    exact ⟨rfl, S2, Q3.out⟩

end Go.Proofs.YtnkbphecabnnaaaGreatDoor
