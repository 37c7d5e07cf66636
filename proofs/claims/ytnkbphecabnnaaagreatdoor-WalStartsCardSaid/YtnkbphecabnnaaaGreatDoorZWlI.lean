/-
 The log's struct beside its disk; (*Wal).Sync, Segments, Append. Conditions: the library's tables; a disk that the operations keep; few and small records.
-/
import Derived.Test.YtnkbphecabnnaaaGreatDoorZGU
namespace Go.Proofs.YtnkbphecabnnaaaGreatDoor
open Go.RowKit Go.Lib Go.Maps
set_option linter.unusedSimpArgs false
set_option linter.unusedVariables false
set_option maxRecDepth 100000

structure WM (w W : World) (S0 S : List Nat) (d b : Nat) (x : Wl) (s : St) : Prop where
 dk : Dk W S d s
 wl : Blk W b 66 (wlc d x)
 nb : b ∉ S
 st : Step (b :: S0) (b :: S) w W
section
variable {w W W1 : World} {S0 S S1 T : List Nat} {d b : Nat} {x x1 : Wl} {s s1 : St}
theorem WM.quiet (h : WM w W S0 S d b x s) (k : Step [] T W W1) : WM w W1 S0 S d b x s := ⟨h.dk.keep k, h.wl.step k (by simp), h.nb, h.st.trans ((k.drop (S'' := []) (by simp)).keep _)⟩
theorem WM.turn (h : WM w W S0 S d b x s) (hd : Dk W1 S1 d s1) (k : Step S S1 W W1) : WM w W1 S0 S1 d b x s1 :=
 ⟨hd, h.wl.step k h.nb, k.notin h.wl.lt h.nb, h.st.trans (k.wide (T := b :: S) (S'' := b :: S1) (fun y hy => by simp [hy]) (fun y hy => by
  rcases List.mem_cons.1 hy with rfl | hy
  ·exact .inl (by simp)
  ·exact .inr (.inl hy)))⟩
theorem WM.set (h : WM w W S0 S d b x s) (hw : Blk W1 b 66 (wlc d x1)) (k : Step [b] [b] W W1) : WM w W1 S0 S d b x1 s :=
 ⟨h.dk.step k (fun y hy hm => by simp only [List.mem_singleton] at hm; subst hm; exact h.nb hy), hw, h.nb, h.st.trans (k.wide (T := b :: S) (S'' := b :: S) (fun y hy => by simp only [List.mem_singleton] at hy; simp [hy]) (fun y hy => .inl hy))⟩
theorem WM.drew (h : WM w W S0 S d b x s) : WM w W.drew S0 S d b x s := h.quiet ((Step.refl [] W).drew)
end
theorem noteW_form (f l z : Int) (e : Int) : noteW ⟨f, l, z, false⟩ e = ⟨f, l, z, (noteW ⟨f, l, z, false⟩ e).o⟩ := by unfold noteW; split <;> rfl
/-- How an operation of the log ends. -/
def WlP (q : Int × Wl × St) (S : List Nat) (d b : Nat) (w : World) (e : Ending) (w' : World) : Prop := e = .returned (.int .i64 q.1) ∧ ∃ S', WM w w' S S' d b q.2.1 q.2.2
theorem Row.away {w w' : World} {sz n cap : Nat} {a : Option Addr} {xs : List Value} {S S' : List Nat} (h : Row w sz a n cap xs) (k : Step S S' w w') (hn : ∀ g, g ∈ blks a → g ∉ S) : Row w' sz a n cap xs := h.step k hn
set_option maxHeartbeats 4000000 in
theorem wsync_any (w : World) (S : List Nat) (d b : Nat) (f L : Nat) (z : Int) (o : Bool) (s : St) (k : Nat) (hd : Dk w S d s) (hb : Blk w b 66 (wlc d ⟨f, L, z, o⟩)) (hnb : b ∉ S) (hO : Ok6 s k) (hk : k ≤ 1000) (hL : L ≤ 999999999999) (w0 : World) (hT : PTab w0) (hU : Tabs w0) (h0 : Step [] (b :: S) w0 w) : Calls Tryz.prog 17 #[.pointer (some ⟨b, 0, none⟩)] w (WlP (syncW ⟨f, L, z, o⟩ s) S d b w) := by
 have HT := Lib.hid (And.intro hT (And.intro hU h0))
 have HO := Lib.hid hO
 have HL := Lib.hid hL
 have H0 : Hid (WM w w S S d b ⟨f, L, z, o⟩ s) := Lib.hid ⟨hd, hb, hnb, Step.refl _ _⟩
 clear hT hU h0 hO hd hnb
 have fc := hb.cell
 have c0 := fc 0
 have c1 := fc 1
 have c2 := fc 2
 have c3 := fc 3
 have c4 := fc 4
 clear fc
 simp only [wlc, List.getElem?_toArray, List.getElem?_cons_zero, List.getElem?_cons_succ] at c0 c1 c2 c3 c4
 clear hb
 cases o with
 | true =>
  go_enter Tryz.func17, Tryz.ntmps17
  go_wp2_with fail
  exact bodyPost_ret (results_tmp rfl _ _ _) rfl ⟨rfl, S, H0.out⟩
 | false =>
  by_cases h0 : L = 0
  ·subst h0
   go_enter Tryz.func17, Tryz.ntmps17
   go_wp2_with fail
   exact bodyPost_ret (results_tmp rfl _ _ _) rfl ⟨rfl, S, H0.out⟩
  ·have q0 : ((L : Int) == 0) = false := by simp; omega
   have HSY : Hid (syncW ⟨f, L, z, false⟩ s = ((syncS s (fileW L)).1, noteW ⟨f, L, z, false⟩ (syncS s (fileW L)).1, (syncS s (fileW L)).2)) := Lib.hid (by unfold syncW; simp only [Bool.false_eq_true, if_false]; rw [if_neg (by omega)]; rfl)
   go_enter Tryz.func17, Tryz.ntmps17
   clear h0
   go_upto_region 5 with fail
   clear c0 c1 c2 c3 c4
   obtain ⟨V, hV⟩ : ∃ V, V = w.drew := ⟨_, rfl⟩
   have HM : Hid (WM w V S S d b ⟨f, L, z, false⟩ s) := Lib.hid (by rw [hV]; exact H0.out.drew)
   refine wp_region_held_drew (S := fun W => Hid ((∃ o1, Blk W b 66 (wlc d ⟨f, L, z, o1⟩)))) (by kernel_rfl) (by rw [← hV]; exact Lib.hid ⟨_, HM.out.wl⟩) (fun hHeld => ?_)
   rw [← hV] at hHeld ⊢
   clear hV
   refine wpAnyH_take (i := 0) (v := ?_) rfl (by kernel_rfl) (by kernel_rfl) (by kernel_rfl) (fun _ _ _ h => h) (Or.inl ⟨by rfl, ?_⟩) hHeld ?_
   rotate_left
   ·intro w hSw1
    try dsimp only at hSw1
    go_simp
    try (with_reducible rfl)
   try simp only [Act.put, LsA, LsB, LsC, LsD, LsE, LsF]
   refine wpAnyH_take (i := 1) (v := ?_) rfl (by kernel_rfl) (by kernel_rfl) (by kernel_rfl) (fun _ _ _ h => h) (Or.inl ⟨by rfl, ?_⟩) hHeld ?_
   rotate_left
   ·intro w hSw1
    try dsimp only at hSw1
    go_simp
    try (with_reducible rfl)
   try simp only [Act.put, LsA, LsB, LsC, LsD, LsE, LsF]
   refine wpAnyH_take (i := 2) (v := ?_) rfl (by kernel_rfl) (by kernel_rfl) (by kernel_rfl) (fun _ _ _ h => h) (Or.inl ⟨by rfl, ?_⟩) hHeld ?_
   rotate_left
   ·intro w hSw1
    try dsimp only at hSw1
    go_simp
    try (with_reducible rfl)
   try simp only [Act.put, LsA, LsB, LsC, LsD, LsE, LsF]
   refine wpAnyH_take (i := 3) (v := ?_) rfl (by kernel_rfl) (by kernel_rfl) (by kernel_rfl) (fun _ _ _ h => h) (Or.inl ⟨by rfl, ?_⟩) hHeld ?_
   rotate_left
   ·intro w hSw1
    try dsimp only at hSw1
    go_simp
    try (with_reducible rfl)
   try simp only [Act.put, LsA, LsB, LsC, LsD, LsE, LsF]
   refine wpAnyH_take (i := 4) (v := ?_) rfl (by kernel_rfl) (by kernel_rfl) (by kernel_rfl) (fun _ _ _ h => h) (Or.inl ⟨by rfl, ?_⟩) hHeld ?_
   rotate_left
   ·intro w hSw1
    obtain ⟨o1, hx1⟩ := hSw1.out
    have fc := hx1.cell
    have c0 := fc 0
    have c1 := fc 1
    have c2 := fc 2
    have c3 := fc 3
    have c4 := fc 4
    clear fc
    simp only [wlc, List.getElem?_toArray, List.getElem?_cons_zero, List.getElem?_cons_succ] at c0 c1 c2 c3 c4
    go_simp
    try (with_reducible rfl)
   try simp only [Act.put, LsA, LsB, LsC, LsD, LsE, LsF]
   refine wpAnyH_take (i := 5) (v := ?_) rfl (by kernel_rfl) (by kernel_rfl) (by kernel_rfl) (fun _ _ _ h => h) (Or.inl ⟨by rfl, ?_⟩) hHeld ?_
   rotate_left
   ·intro w hSw1
    try dsimp only at hSw1
    go_simp
    try (with_reducible rfl)
   try simp only [Act.put, LsA, LsB, LsC, LsD, LsE, LsF]
   refine wpAnyH_take (i := 6) (v := ?_) rfl (by kernel_rfl) (by kernel_rfl) (by kernel_rfl) (fun _ _ _ h => h) (Or.inl ⟨by rfl, ?_⟩) hHeld ?_
   rotate_left
   ·intro w hSw1
    try dsimp only at hSw1
    go_simp
    try (with_reducible rfl)
   try simp only [Act.put, LsA, LsB, LsC, LsD, LsE, LsF]
   refine wpAnyH_take (i := 7) (v := ?_) rfl (by kernel_rfl) (by kernel_rfl) (by kernel_rfl) (fun _ _ _ h => h) (Or.inl ⟨by rfl, ?_⟩) hHeld ?_
   rotate_left
   ·intro w hSw1
    try dsimp only at hSw1
    go_simp
    try (with_reducible rfl)
   try simp only [Act.put, LsA, LsB, LsC, LsD, LsE, LsF]
   refine wpAnyH_take (i := 8) (v := ?_) rfl (by kernel_rfl) (by kernel_rfl) (by kernel_rfl) (fun _ _ _ h => h) (Or.inl ⟨by rfl, ?_⟩) hHeld ?_
   rotate_left
   ·intro w hSw1
    obtain ⟨o1, hx1⟩ := hSw1.out
    have fc := hx1.cell
    have c0 := fc 0
    have c1 := fc 1
    have c2 := fc 2
    have c3 := fc 3
    have c4 := fc 4
    clear fc
    simp only [wlc, List.getElem?_toArray, List.getElem?_cons_zero, List.getElem?_cons_succ] at c0 c1 c2 c3 c4
    go_simp
    try (with_reducible rfl)
   try simp only [Act.put, LsA, LsB, LsC, LsD, LsE, LsF]
   refine wpAnyH_ready (rs := [9]) (by kernel_rfl) (by simp) ?_
   refine AllReadyH.cons rfl (fun K hK => ?_) AllReadyH.nil
   go_simp
   refine (wfile_any L HL.out V (HT.out.1.step (HT.out.2.2.trans HM.out.st))).mono ?_; rintro e1 u1 ⟨rfl, k1⟩; have Q1 := Lib.hid (HM.out.quiet k1); clear k1
   go_wp2_with fail
   refine hK.out _ _ (Lib.hid ⟨_, Q1.out.wl⟩) (fun hHeld2 => ?_)
   clear hK K hHeld
   try simp only [Act.put, LsA, LsB, LsC, LsD, LsE, LsF]
   refine wpAnyH_ready (rs := [10]) (by kernel_rfl) (by simp) ?_
   refine AllReadyH.cons rfl (fun K hK => ?_) AllReadyH.nil
   go_simp
   refine (sync_any (fileW L) u1 S d s Q1.out.dk HO.out.b (by rw [fileW_len]; omega)).mono ?_; rintro e2 u2 ⟨rfl, S2, hd2, k2⟩; obtain ⟨er, her⟩ : ∃ er, er = (syncS s (fileW L)).1 := ⟨_, rfl⟩; obtain ⟨s2, hs2⟩ : ∃ s2, s2 = (syncS s (fileW L)).2 := ⟨_, rfl⟩; have HER := Lib.hid (And.intro her hs2); rw [← hs2] at hd2; rw [← her]; clear her hs2; have Q2 := Lib.hid (Q1.out.turn hd2 k2); clear hd2 k2
   go_wp2_with fail
   refine hK.out _ _ (Lib.hid ⟨_, Q2.out.wl⟩) (fun hHeld3 => ?_)
   clear hK K hHeld2
   try simp only [Act.put, LsA, LsB, LsC, LsD, LsE, LsF]
   refine wpAnyH_ready (rs := [11]) (by kernel_rfl) (by simp) ?_
   refine AllReadyH.cons rfl (fun K hK => ?_) AllReadyH.nil
   go_simp
   refine (wnote_any u2 b d ⟨f, L, z, false⟩ er Q2.out.wl).mono ?_; rintro e3 u3 ⟨rfl, hb3, k3⟩; have Q3 := Lib.hid (Q2.out.set hb3 k3); clear hb3 k3
   go_wp2_with fail
   refine hK.out _ _ (Lib.hid ⟨_, (by have h := Q3.out.wl; rw [noteW_form] at h; exact h)⟩) (fun hHeld4 => ?_)
   clear hK K hHeld3
   try simp only [Act.put, LsA, LsB, LsC, LsD, LsE, LsF]
   refine wpAnyH_take (i := 12) (v := ?_) rfl (by kernel_rfl) (by kernel_rfl) (by kernel_rfl) (fun _ _ _ h => h) (Or.inl ⟨by rfl, ?_⟩) hHeld4 ?_
   rotate_left
   ·intro w hSw1
    try dsimp only at hSw1
    go_simp
    try (with_reducible rfl)
   try simp only [Act.put, LsA, LsB, LsC, LsD, LsE, LsF]
   refine wpAnyH_done (by kernel_rfl) ?_ _
   go_wp2_with fail
   refine bodyPost_ret (results_tmp rfl _ _ _) rfl ?_
   rw [HSY.out, ← HER.out.1, ← HER.out.2]
   exact ⟨rfl, S2, Q3.out⟩
set_option maxHeartbeats 1000000 in
theorem wsegs_any (w : World) (d b : Nat) (f L : Nat) (z : Int) (o : Bool) (hb : Blk w b 66 (wlc d ⟨f, L, z, o⟩)) (hL : L ≤ 999999999999) (hf : f ≤ 999999999999) : Calls Tryz.prog 18 #[.pointer (some ⟨b, 0, none⟩)] w fun e w' => e = .returned (.int .i64 (segsW ⟨f, L, z, o⟩)) ∧ Step [] [] w w' := by
 have fc := hb.cell
 have c0 := fc 0
 have c1 := fc 1
 have c2 := fc 2
 have c3 := fc 3
 have c4 := fc 4
 clear fc
 simp only [wlc, List.getElem?_toArray, List.getElem?_cons_zero, List.getElem?_cons_succ] at c0 c1 c2 c3 c4
 have HL := Lib.hid hL
 clear hb
 cases o with
 | true =>
  go_enter Tryz.func18, Tryz.ntmps18
  go_wp2_with fail
  exact bodyPost_ret (results_tmp rfl _ _ _) rfl ⟨rfl, Step.refl _ _⟩
 | false =>
  by_cases h0 : L = 0
  ·subst h0
   go_enter Tryz.func18, Tryz.ntmps18
   go_wp2_with fail
   exact bodyPost_ret (results_tmp rfl _ _ _) rfl ⟨rfl, Step.refl _ _⟩
  ·have q0 : ((L : Int) == 0) = false := by simp; omega
   have HSY : Hid (segsW ⟨f, L, z, false⟩ = (L : Int) - (f : Int) + 1) := Lib.hid (by unfold segsW; simp; omega)
   go_enter Tryz.func18, Tryz.ntmps18
   clear h0
   go_upto_region 3 with fail
   go_quiet (fail)
   go_wp2_with fail
   exact bodyPost_ret (results_tmp rfl _ _ _) rfl ⟨by rw [HSY.out]; rfl, (Step.refl _ _).drewN _⟩

end Go.Proofs.YtnkbphecabnnaaaGreatDoor
