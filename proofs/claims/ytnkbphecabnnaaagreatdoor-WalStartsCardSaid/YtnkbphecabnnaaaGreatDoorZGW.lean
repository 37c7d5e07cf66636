/-
 Chapter 7's awake, and what stands beside a log in a law. Condition: the library's tables.
-/
import Derived.Test.YtnkbphecabnnaaaGreatDoorZGA
import Derived.Test.YtnkbphecabnnaaaGreatDoorZGO
import Derived.Test.YtnkbphecabnnaaaGreatDoorZWlH
import Derived.Test.YtnkbphecabnnaaaGreatDoorZWlJ
import Derived.Test.YtnkbphecabnnaaaGreatDoorZWlK
import Derived.Test.YtnkbphecabnnaaaGreatDoorZGV
import Derived.Test.YtnkbphecabnnaaaGreatDoorZLawTabs7
import Derived.Test.YtnkbphecabnnaaaGreatDoorZGJ
import Derived.Great.BuildSlice
namespace Go.Proofs.YtnkbphecabnnaaaGreatDoor
open Go.RowKit Go.Lib Go.Maps
set_option linter.unusedSimpArgs false
set_option linter.unusedVariables false
set_option maxRecDepth 100000

structure LW (w0 W : World) (S : List Nat) (d b : Nat) (x : Wl) (s : St) : Prop where
 dk : Dk W S d s
 wl : Blk W b 66 (wlc d x)
 nb : b ∉ S
 st : Step [] (b :: S) w0 W
section
variable {w0 W W1 : World} {S S1 T : List Nat} {d b : Nat} {x x1 : Wl} {s s1 : St}
theorem LW.quiet (h : LW w0 W S d b x s) (k : Step [] T W W1) : LW w0 W1 S d b x s := ⟨h.dk.keep k, h.wl.step k (by simp), h.nb, h.st.trans ((k.drop (S'' := []) (by simp)).keep _)⟩
theorem LW.next (h : LW w0 W S d b x s) (k : WM W W1 S S1 d b x1 s1) : LW w0 W1 S1 d b x1 s1 := ⟨k.dk, k.wl, k.nb, h.st.trans k.st⟩
theorem LW.turn (h : LW w0 W S d b x s) (hd : Dk W1 S1 d s1) (k : Step S S1 W W1) : LW w0 W1 S1 d b x s1 :=
 ⟨hd, h.wl.step k h.nb, k.notin h.wl.lt h.nb, h.st.trans (k.wide (T := b :: S) (S'' := b :: S1) (fun y hy => by simp [hy]) (fun y hy => by
  rcases List.mem_cons.1 hy with rfl | hy
  ·exact .inl (by simp)
  ·exact .inr (.inl hy)))⟩
theorem LW.disk (h : LW w0 W S d b x s) : Step [] S w0 W := h.st.drop (by intro y hy; simp [hy])
end
theorem open_lw {w0 W W1 : World} {S : List Nat} {d : Nat} {q : Int × Wl × List Rc × St} {e : Ending} (h : Step [] S w0 W) (hp : OpnP q S d W e W1) (hq : q.1 = 0) :
  ∃ S1 b a cap, e = .returned (.tuple #[.pointer (some ⟨b, 0, none⟩), .slice a q.2.2.1.length cap, .int .i64 0]) ∧ LW w0 W1 S1 d b q.2.1 q.2.2.2 ∧ Row W1 5 a q.2.2.1.length cap (rcs q.2.2.1) ∧ Step S S1 W W1 ∧ (∀ g, g ∈ blks a → g ∉ S1 ∧ g ≠ b ∧ W.heap.size ≤ g) ∧ W.heap.size ≤ b := by
 obtain ⟨S1, hd, st, hc | hc⟩ := hp
 ·obtain ⟨_, b, a, cap, he, hb, hr, hn, hna, hlb, hla⟩ := hc
  refine ⟨S1, b, a, cap, he, ⟨hd, hb, hn, ?_⟩, hr, st, fun g hg => ⟨(hna g hg).1, (hna g hg).2, hla g hg⟩, hlb⟩
  exact (h.trans st).wide (T := []) (S'' := b :: S1) (fun _ hx => hx) (fun k hk => by
   rcases List.mem_cons.1 hk with rfl | hk
   ·exact .inr (.inr (Nat.le_trans h.size hlb))
   ·exact .inr (.inl hk))
 ·exact absurd hq hc.1
theorem wnew_ok (room : Int) (w : World) (h : okRoom room = true) : Calls Tryz.prog 8 #[.int .i64 room] w fun e w' => ∃ S' d, e = .returned (.tuple #[.pointer (some ⟨d, 0, none⟩), .int .i64 0]) ∧ Dk w' S' d (newS room) ∧ Step [] S' w w' := by
 refine (new_any room w).mono ?_
 rintro e w' (⟨_, h2⟩ | ⟨h2, _⟩)
 ·exact h2
 ·rw [h] at h2; cases h2
theorem rd_none5 (w : World) : Rd w 5 none 0 (rcs []) := ⟨rfl, fun h => by omega, fun g off sp e => by cases e⟩
theorem few_nil : FewRc [] := ⟨by simp, by simp⟩
/-- A log is begun on a new disk. -/
theorem wstart_new (room : Int) (hroom : 100 ≤ room ∧ room ≤ 8388608) (w0 W : World) (S : List Nat) (d b : Nat) (h : LW w0 W S d b ⟨0, 0, 0, false⟩ (newS room)) (hT : PTab w0) (hU : Tabs w0) :
  Calls Tryz.prog 15 #[.pointer (some ⟨b, 0, none⟩), .slice none 0 0] W (WlP (0, ⟨((1 : Nat) : Int), ((1 : Nat) : Int), ((head0.length : Nat) : Int), false⟩, ⟨logE 1 [] head0 [], room, -1, false⟩) S d b W) := by
 have h1 := wstart_any W S d b 0 0 0 false (newS room) 0 h.dk h.wl h.nb (ok_new (by unfold okRoom; simp; omega)) (by omega) (by omega) w0 hT hU h.st (Nat.le_refl _) [] none 0 (rd_none5 W) few_nil
 have h2 := start_first (m := []) (by simp) (room := room) (by rw [begW_nil]; have := head0_len; omega)
 rw [begW_nil] at h2
 rwa [show startS ⟨((0 : Nat) : Int), ((0 : Nat) : Int), 0, false⟩ [] (newS room) = _ from h2] at h1
set_option maxHeartbeats 8000000 in
theorem awake07_true (w : World) (hT : PTab w) (hU : Tabs w) : Calls Tryz.prog 7 #[] w fun e w' => e = .returned (.bool true) ∧ Step [] [] w w' := by
 have HT := Lib.hid (And.intro hT hU)
 clear hT hU
 go_enter Tryz.func7, Tryz.ntmps7
 go_wp2_with fail
 refine (wnew_ok 10000 w (by decide)).mono ?_
 rintro e w1 ⟨S1, d, rfl, hd1, st1⟩
 have H1 : Hid (Dk w1 S1 d (newS 10000) ∧ Step [] S1 w w1) := Lib.hid ⟨hd1, st1⟩
 clear hd1 st1
 go_wp2_with fail
 have hc := wopen_any w1 S1 d (newS 10000) 0 H1.out.1 (ok_new (by decide)) (by omega) (by intro e he; simp [newS] at he) w HT.out.1 H1.out.2
 rw [open_new] at hc
 refine hc.mono ?_
 intro e w2 hp
 obtain ⟨S2, b, a2, cap2, rfl, hlw, _, _, _, _⟩ := open_lw H1.out.2 hp rfl
 have H2 := Lib.hid hlw
 clear hlw hp hc H1
 simp only [List.length_nil]
 go_upto_region 4 with fail
 obtain ⟨rb, hrb⟩ : ∃ rb, rb = w2.heap.size := ⟨_, rfl⟩
 obtain ⟨V, hV⟩ : ∃ V, V = w2.alloc (.cells (rcc awR).toArray 45) := ⟨_, rfl⟩
 have H3 : Hid (LW w V S2 d b ⟨0, 0, 0, false⟩ (newS 10000) ∧ Blk V rb 45 (rcc awR).toArray ∧ rb ∉ b :: S2) := by
  subst hV hrb
  exact ⟨H2.out.quiet ((Step.refl [] w2).alloc _), Blk.new w2 _ _, fun hm => by
   rcases List.mem_cons.1 hm with h | h
   ·have := H2.out.wl.lt; omega
   ·have := H2.out.dk.lt _ h; omega⟩
 change Code.wp _ _ _ _ (w2.alloc (.cells (rcc awR).toArray 45))
 rw [← hV]
 try rw [← hrb]
 clear hV hrb H2
 go_wp2_with fail
 refine (wstart_new 10000 (by omega) w V S2 d b H3.out.1 HT.out.1 HT.out.2).mono ?_
 rintro e w4 ⟨rfl, S4, hm4⟩
 have H4 : Hid (LW w w4 S4 d b ⟨((1 : Nat) : Int), ((1 : Nat) : Int), ((head0.length : Nat) : Int), false⟩ ⟨logE 1 [] head0 [], 10000, -1, false⟩ ∧ Blk w4 rb 45 (rcc awR).toArray ∧ rb ∉ b :: S4) := Lib.hid ⟨H3.out.1.next hm4, H3.out.2.1.step hm4.st H3.out.2.2, hm4.st.notin H3.out.2.1.lt H3.out.2.2⟩
 clear hm4 H3
 have fc := H4.out.2.1.cell
 have f0 := fc 0
 have f1 := fc 1
 have f2 := fc 2
 have f3 := fc 3
 have f4 := fc 4
 clear fc
 simp only [rcc, List.getElem?_toArray, List.getElem?_cons_zero, List.getElem?_cons_succ] at f0 f1 f2 f3 f4
 obtain ⟨nb, hnb⟩ : ∃ nb, nb = w4.heap.size := ⟨_, rfl⟩
 obtain ⟨U, hU⟩ : ∃ U, U = w4.alloc (.cells (rcc awR).toArray 45) := ⟨_, rfl⟩
 have H5 : Hid (LW w U S4 d b ⟨((1 : Nat) : Int), ((1 : Nat) : Int), ((head0.length : Nat) : Int), false⟩ ⟨logE 1 [] head0 [], 10000, -1, false⟩ ∧ Blk U rb 45 (rcc awR).toArray ∧ rb ∉ b :: S4 ∧ Rd U 5 (some ⟨nb, 0, none⟩) 1 (rcs [awR])) := by
  subst hU hnb
  exact ⟨H4.out.1.quiet ((Step.refl [] w4).alloc _), H4.out.2.1.alloc _, H4.out.2.2, rd_blk' (xs := rcs [awR]) (Blk.new w4 _ _) 5 1 rfl⟩
 have HNB := Lib.hid hnb
 have HU := Lib.hid hU
 clear hnb hU H4
 go_wp2_with fail
 clear f0 f1 f2 f3 f4
 obtain ⟨x, y, ha1, hxy, hx⟩ := append_first (l := [awR]) aw_all (room := 10000) (by have h1 := head0_len; have h2 := awR_frame; rw [List.length_append]; omega)
 have ha := wappend_any U S4 d b 1 1 (head0.length : Nat) false ⟨logE 1 [] head0 [], 10000, -1, false⟩ 1 H5.out.1.dk H5.out.1.wl H5.out.1.nb (ok_logE (us := []) (by have h1 := head0_len; simp [sumL]; omega) (by simp) (by omega) (by omega)) (by omega) (by omega) w HT.out.1 HT.out.2 H5.out.1.st (by have h1 := head0_len; omega) [awR] (some ⟨nb, 0, none⟩) 1 H5.out.2.2.2 trivial ⟨by simp, by simp [awR]⟩
 rw [show appendW ⟨((1 : Nat) : Int), ((1 : Nat) : Int), ((head0.length : Nat) : Int), false⟩ [awR] ⟨logE 1 [] head0 [], 10000, -1, false⟩ = _ from ha1] at ha
 rw [HNB.out] at ha
 rw [HU.out] at ha
 refine ha.mono ?_
 rintro e w5 ⟨rfl, S5, hm5⟩
 rw [← HU.out] at hm5
 have HXY := Lib.hid (And.intro hxy hx)
 have H6 : Hid (LW w w5 S5 d b ⟨((1 : Nat) : Int), ((1 : Nat) : Int), (((head0 ++ framesB [awR]).length : Nat) : Int), false⟩ ⟨logE 1 [] x y, 10000, -1, false⟩ ∧ Blk w5 rb 45 (rcc awR).toArray ∧ rb ∉ b :: S5) := Lib.hid ⟨H5.out.1.next hm5, H5.out.2.1.step hm5.st H5.out.2.2.1, hm5.st.notin H5.out.2.1.lt H5.out.2.2.1⟩
 clear hm5 H5 ha ha1 hxy hx HNB HU
 have hxyl : x.length + y.length ≤ 107 := by have h1 := congrArg List.length HXY.out.1; rw [List.length_append, List.length_append] at h1; have h2 := head0_len; have h3 := awR_frame; omega
 go_wp2_with fail
 have hs := wsync_any w5 S5 d b 1 1 (((head0 ++ framesB [awR]).length : Nat) : Int) false ⟨logE 1 [] x y, 10000, -1, false⟩ 1 H6.out.1.dk H6.out.1.wl H6.out.1.nb (ok_logE (us := []) (by simp [sumL]; omega) (by simp) (by omega) (by omega)) (by omega) (by omega) w HT.out.1 HT.out.2 H6.out.1.st
 rw [show syncW ⟨((1 : Nat) : Int), ((1 : Nat) : Int), (((head0 ++ framesB [awR]).length : Nat) : Int), false⟩ ⟨logE 1 [] x y, 10000, -1, false⟩ = _ from sync_first (X := awX) HXY.out.1] at hs
 refine hs.mono ?_
 rintro e w6 ⟨rfl, S6, hm6⟩
 have H7 : Hid (LW w w6 S6 d b ⟨((1 : Nat) : Int), ((1 : Nat) : Int), (((head0 ++ framesB [awR]).length : Nat) : Int), false⟩ ⟨logE 1 [] awX [], 10000, -1, false⟩ ∧ Blk w6 rb 45 (rcc awR).toArray ∧ rb ∉ b :: S6) := Lib.hid ⟨H6.out.1.next hm6, H6.out.2.1.step hm6.st H6.out.2.2, hm6.st.notin H6.out.2.1.lt H6.out.2.2⟩
 clear hm6 H6 hs hxyl HXY
 have hawl : awX.length ≤ 107 := by unfold awX; rw [List.length_append]; have h2 := head0_len; have h3 := awR_frame; omega
 go_wp2_with fail
 have ho := wopen_any w6 S6 d ⟨logE 1 [] awX [], 10000, -1, false⟩ 1 H7.out.1.dk (ok_logE (us := []) (by simp [sumL]; omega) (by simp) (by omega) (by omega)) (by omega) (logE_nm (by simp)) w HT.out.1 H7.out.1.disk
 obtain ⟨q, hq⟩ : ∃ q, q = openS ⟨logE 1 [] awX [], 10000, -1, false⟩ := ⟨_, rfl⟩
 have hq1 := aw_open.1
 have hq2 := aw_open.2
 rw [← hq] at ho hq1 hq2
 refine ho.mono ?_
 intro e w7 hp
 obtain ⟨S7, b7, a7, cap7, rfl, hlw, hrow7, st7, hna7, hb7⟩ := open_lw H7.out.1.disk hp hq1
 rw [hq2] at hrow7
 rw [hq2]
 have H8 : Hid (LW w w7 S7 d b ⟨((1 : Nat) : Int), ((1 : Nat) : Int), (((head0 ++ framesB [awR]).length : Nat) : Int), false⟩ q.2.2.2 ∧ Blk w7 rb 45 (rcc awR).toArray) := Lib.hid ⟨H7.out.1.turn hlw.dk st7, H7.out.2.1.step st7 (fun hm => H7.out.2.2 (by simp [hm]))⟩
 have HR7 := Lib.hid hrow7.rd
 clear hlw hrow7 st7 hna7 hb7 hp ho hq1 hq2 hq H7 hawl
 simp only [List.length_cons, List.length_nil]
 obtain ⟨g, off, rfl⟩ := HR7.out.some_ (by simp)
 go_upto_region 7 with fail
 obtain ⟨V7, hV⟩ : ∃ V7, V7 = w7.drew := ⟨_, rfl⟩
 have HS : Hid (LW w V7 S7 d b ⟨((1 : Nat) : Int), ((1 : Nat) : Int), (((head0 ++ framesB [awR]).length : Nat) : Int), false⟩ q.2.2.2 ∧ Blk V7 rb 45 (rcc awR).toArray ∧ Rd V7 5 (some ⟨g, off, none⟩) [awR].length (rcs [awR])) := Lib.hid (by rw [hV]; exact ⟨H8.out.1.quiet ((Step.refl [] w7).drew), H8.out.2.step ((Step.refl [] w7).drew) (by simp), HR7.out.step0 ((Step.refl [] w7).drew)⟩)
 clear H8 HR7
 refine wp_region_held_drew (S := fun W => Hid (LW w W S7 d b ⟨((1 : Nat) : Int), ((1 : Nat) : Int), (((head0 ++ framesB [awR]).length : Nat) : Int), false⟩ q.2.2.2 ∧ Blk W rb 45 (rcc awR).toArray ∧ Rd W 5 (some ⟨g, off, none⟩) [awR].length (rcs [awR]))) (by kernel_rfl) (by rw [← hV]; exact HS) (fun hHeld => ?_)
 rw [← hV] at hHeld ⊢
 clear hV
 refine wpAnyH_take (i := 0) (v := ?_) rfl (by kernel_rfl) (by kernel_rfl) (by kernel_rfl) (fun _ _ _ h => h) (Or.inl ⟨by rfl, ?_⟩) hHeld ?_
 rotate_left
 ·intro w hSw1
  try dsimp only at hSw1
  go_simp
  try (with_reducible rfl)
 try simp only [Act.put, LsA, LsB, LsC, LsD, LsE, LsF]
 refine wpAnyH_take (i := 1) (v := ?_) rfl (by kernel_rfl) (by kernel_rfl) (by kernel_rfl) (fun _ _ _ h => h) (Or.inl ⟨by rfl, ?_⟩) hHeld ?_
 rotate_left
 ·intro w hSw1
  try dsimp only at hSw1
  go_simp
  try (with_reducible rfl)
 try simp only [Act.put, LsA, LsB, LsC, LsD, LsE, LsF]
 refine wpAnyH_take (i := 2) (v := ?_) rfl (by kernel_rfl) (by kernel_rfl) (by kernel_rfl) (fun _ _ _ h => h) (Or.inl ⟨by rfl, ?_⟩) hHeld ?_
 rotate_left
 ·intro w hSw1
  try dsimp only at hSw1
  go_simp
  try (with_reducible rfl)
 try simp only [Act.put, LsA, LsB, LsC, LsD, LsE, LsF]
 refine wpAnyH_take (i := 3) (v := ?_) rfl (by kernel_rfl) (by kernel_rfl) (by kernel_rfl) (fun _ _ _ h => h) (Or.inl ⟨by rfl, ?_⟩) hHeld ?_
 rotate_left
 ·intro w hSw1
  try dsimp only at hSw1
  go_simp
  try (with_reducible rfl)
 try simp only [Act.put, LsA, LsB, LsC, LsD, LsE, LsF]
 refine wpAnyH_take (i := 4) (v := ?_) rfl (by kernel_rfl) (by kernel_rfl) (by kernel_rfl) (fun _ _ _ h => h) (Or.inl ⟨by rfl, ?_⟩) hHeld ?_
 rotate_left
 ·intro w hSw1
  try dsimp only at hSw1
  go_simp
  try (with_reducible rfl)
 try simp only [Act.put, LsA, LsB, LsC, LsD, LsE, LsF]
 refine wpAnyH_take (i := 5) (v := ?_) rfl (by kernel_rfl) (by kernel_rfl) (by kernel_rfl) (fun _ _ _ h => h) (Or.inl ⟨by rfl, ?_⟩) hHeld ?_
 rotate_left
 ·intro w hSw1
  try dsimp only at hSw1
  go_simp
  try (with_reducible rfl)
 try simp only [Act.put, LsA, LsB, LsC, LsD, LsE, LsF]
 refine wpAnyH_take (i := 6) (v := ?_) rfl (by kernel_rfl) (by kernel_rfl) (by kernel_rfl) (fun _ _ _ h => h) (Or.inl ⟨by rfl, ?_⟩) hHeld ?_
 rotate_left
 ·intro w hSw1
  try dsimp only at hSw1
  go_simp
  try (with_reducible rfl)
 try simp only [Act.put, LsA, LsB, LsC, LsD, LsE, LsF]
 refine wpAnyH_take (i := 7) (v := ?_) rfl (by kernel_rfl) (by kernel_rfl) (by kernel_rfl) (fun _ _ _ h => h) (Or.inl ⟨by rfl, ?_⟩) hHeld ?_
 rotate_left
 ·intro w hSw1
  try dsimp only at hSw1
  go_simp
  try (with_reducible rfl)
 try simp only [Act.put, LsA, LsB, LsC, LsD, LsE, LsF]
 refine wpAnyH_take (i := 8) (v := ?_) rfl (by kernel_rfl) (by kernel_rfl) (by kernel_rfl) (fun _ _ _ h => h) (Or.inl ⟨by rfl, ?_⟩) hHeld ?_
 rotate_left
 ·intro w hSw1
  try dsimp only at hSw1
  go_simp
  try (with_reducible rfl)
 try simp only [Act.put, LsA, LsB, LsC, LsD, LsE, LsF]
 refine wpAnyH_take (i := 9) (v := ?_) rfl (by kernel_rfl) (by kernel_rfl) (by kernel_rfl) (fun _ _ _ h => h) (Or.inl ⟨by rfl, ?_⟩) hHeld ?_
 rotate_left
 ·intro w hSw1
  try dsimp only at hSw1
  go_simp
  try (with_reducible rfl)
 try simp only [Act.put, LsA, LsB, LsC, LsD, LsE, LsF]
 refine wpAnyH_take (i := 10) (v := ?_) rfl (by kernel_rfl) (by kernel_rfl) (by kernel_rfl) (fun _ _ _ h => h) (Or.inl ⟨by rfl, ?_⟩) hHeld ?_
 rotate_left
 ·intro w hSw1
  obtain ⟨z0, z1, z2, z3, z4⟩ := rd_rc hSw1.out.2.2 (k := 0) (x := awR) rfl
  simp only [Nat.zero_mul, Nat.add_zero, awR] at z0 z1 z2 z3 z4
  go_simp
  try (with_reducible rfl)
 try simp only [Act.put, LsA, LsB, LsC, LsD, LsE, LsF]
 refine wpAnyH_take (i := 11) (v := ?_) rfl (by kernel_rfl) (by kernel_rfl) (by kernel_rfl) (fun _ _ _ h => h) (Or.inl ⟨by rfl, ?_⟩) hHeld ?_
 rotate_left
 ·intro w hSw1
  have fc := hSw1.out.2.1.cell
  have f0 := fc 0
  have f1 := fc 1
  have f2 := fc 2
  have f3 := fc 3
  have f4 := fc 4
  clear fc
  simp only [rcc, List.getElem?_toArray, List.getElem?_cons_zero, List.getElem?_cons_succ] at f0 f1 f2 f3 f4
  simp only [awR] at f0 f1 f2 f3 f4
  go_simp
  try (with_reducible rfl)
 try simp only [Act.put, LsA, LsB, LsC, LsD, LsE, LsF]
 refine wpAnyH_take (i := 12) (v := ?_) rfl (by kernel_rfl) (by kernel_rfl) (by kernel_rfl) (fun _ _ _ h => h) (Or.inl ⟨by rfl, ?_⟩) hHeld ?_
 rotate_left
 ·intro w hSw1
  try dsimp only at hSw1
  go_simp
  try (with_reducible rfl)
 try simp only [Act.put, LsA, LsB, LsC, LsD, LsE, LsF]
 refine wpAnyH_take (i := 13) (v := ?_) rfl (by kernel_rfl) (by kernel_rfl) (by kernel_rfl) (fun _ _ _ h => h) (Or.inl ⟨by rfl, ?_⟩) hHeld ?_
 rotate_left
 ·intro w hSw1
  try dsimp only at hSw1
  go_simp
  try (with_reducible rfl)
 try simp only [Act.put, LsA, LsB, LsC, LsD, LsE, LsF]
 refine wpAnyH_take (i := 14) (v := ?_) rfl (by kernel_rfl) (by kernel_rfl) (by kernel_rfl) (fun _ _ _ h => h) (Or.inl ⟨by rfl, ?_⟩) hHeld ?_
 rotate_left
 ·intro w hSw1
  try dsimp only at hSw1
  go_simp
  try (with_reducible rfl)
 try simp only [Act.put, LsA, LsB, LsC, LsD, LsE, LsF]
 refine wpAnyH_take (i := 15) (v := ?_) rfl (by kernel_rfl) (by kernel_rfl) (by kernel_rfl) (fun _ _ _ h => h) (Or.inl ⟨by rfl, ?_⟩) hHeld ?_
 rotate_left
 ·intro w hSw1
  try dsimp only at hSw1
  go_simp
  try (with_reducible rfl)
 try simp only [Act.put, LsA, LsB, LsC, LsD, LsE, LsF]
 refine wpAnyH_ready (rs := [16]) (by kernel_rfl) (by simp) ?_
 refine AllReadyH.cons rfl (fun K hK => ?_) AllReadyH.nil
 go_simp
 refine (wsegs_any V7 d b 1 1 (((head0 ++ framesB [awR]).length : Nat) : Int) false HS.out.1.wl (by omega) (by omega)).mono ?_; rintro e8 w8 ⟨rfl, k8⟩; have H9 : Hid (LW w w8 S7 d b ⟨((1 : Nat) : Int), ((1 : Nat) : Int), (((head0 ++ framesB [awR]).length : Nat) : Int), false⟩ q.2.2.2 ∧ Blk w8 rb 45 (rcc awR).toArray ∧ Rd w8 5 (some ⟨g, off, none⟩) [awR].length (rcs [awR])) := Lib.hid ⟨HS.out.1.quiet k8, HS.out.2.1.step k8 (by simp), HS.out.2.2.step0 k8⟩; clear k8; rw [show segsW ⟨((1 : Nat) : Int), ((1 : Nat) : Int), (((head0 ++ framesB [awR]).length : Nat) : Int), false⟩ = 1 from rfl]
 go_wp2_with fail
 refine hK.out _ _ (H9) (fun hHeld2 => ?_)
 clear hK K hHeld
 try simp only [Act.put, LsA, LsB, LsC, LsD, LsE, LsF]
 refine wpAnyH_take (i := 17) (v := ?_) rfl (by kernel_rfl) (by kernel_rfl) (by kernel_rfl) (fun _ _ _ h => h) (Or.inl ⟨by rfl, ?_⟩) hHeld2 ?_
 rotate_left
 ·intro w hSw1
  try dsimp only at hSw1
  go_simp
  try (with_reducible rfl)
 try simp only [Act.put, LsA, LsB, LsC, LsD, LsE, LsF]
 refine wpAnyH_take (i := 18) (v := ?_) rfl (by kernel_rfl) (by kernel_rfl) (by kernel_rfl) (fun _ _ _ h => h) (Or.inl ⟨by rfl, ?_⟩) hHeld2 ?_
 rotate_left
 ·intro w hSw1
  try dsimp only at hSw1
  go_simp
  try (with_reducible rfl)
 try simp only [Act.put, LsA, LsB, LsC, LsD, LsE, LsF]
 refine wpAnyH_take (i := 19) (v := ?_) rfl (by kernel_rfl) (by kernel_rfl) (by kernel_rfl) (fun _ _ _ h => h) (Or.inl ⟨by rfl, ?_⟩) hHeld2 ?_
 rotate_left
 ·intro w hSw1
  try dsimp only at hSw1
  go_simp
  try (with_reducible rfl)
 try simp only [Act.put, LsA, LsB, LsC, LsD, LsE, LsF]
 refine wpAnyH_done (by kernel_rfl) ?_ _
 go_wp2_with fail
 exact bodyPost_ret (results_tmp rfl _ _ _) rfl ⟨rfl, H9.out.1.st.drop (by simp)⟩

end Go.Proofs.YtnkbphecabnnaaaGreatDoor
namespace Go.Proofs.YtnkbphecabnnaaaGreatDoor
open Go.RowKit Go.Lib Go.ChangeShapes Go.WideShapes Go.ChangeAt Go.Maps
set_option linter.unusedSimpArgs false
set_option linter.unusedVariables false
set_option maxRecDepth 100000

theorem op_rc {w : World} {cs : List Value} (h : Op Tryz.prog w 45 cs) : ∃ r : Rc, cs = rcc r ∧ r.dt.length ≤ 140737488351232 := by
  obtain ⟨hl, _⟩ := h.struct Tryz.underlying45
  rw [show Tryz.prog.cellsOf 45 = 5 by kernel_rfl] at hl
  obtain ⟨c0, c1, c2, c3, c4, rfl⟩ : ∃ a0 a1 a2 a3 a4, cs = [a0, a1, a2, a3, a4] := by
    match cs, hl with
    | [a0, a1, a2, a3, a4], _ => exact ⟨a0, a1, a2, a3, a4, rfl⟩
  have g0 := h.field Tryz.underlying45 0 3 rfl (by kernel_rfl) rfl
  have g1 := h.field Tryz.underlying45 1 3 rfl (by kernel_rfl) rfl
  have g2 := h.field Tryz.underlying45 2 3 rfl (by kernel_rfl) rfl
  have g3 := h.field Tryz.underlying45 3 3 rfl (by kernel_rfl) rfl
  have g4 := h.field Tryz.underlying45 4 9 rfl (by kernel_rfl) rfl
  obtain ⟨x0, e0, w0⟩ := g0.int Tryz.underlying3
  obtain ⟨x1, e1, w1⟩ := g1.int Tryz.underlying3
  obtain ⟨x2, e2, w2⟩ := g2.int Tryz.underlying3
  obtain ⟨x3, e3, w3⟩ := g3.int Tryz.underlying3
  obtain ⟨x4, e4, w4⟩ := g4.str Tryz.underlying9
  simp only [List.cons.injEq, and_true] at e0 e1 e2 e3 e4
  subst e0 e1 e2 e3 e4
  exact ⟨⟨x0, x1, x2, x3, x4⟩, rfl, w4⟩
theorem op_rcs {w : World} {v : Value} {b0 : Nat} (h1 : Value.okWide Tryz.prog w .any b0 32 v) (o1 : Op Tryz.prog w 32 v.cells.toList) : ∃ (l : List Rc) (a : Option Addr) (cap : Nat), v = .slice a l.length cap ∧ Rd w 5 a l.length (rcs l) ∧ (∀ r ∈ l, r.dt.length ≤ 140737488351232) ∧ l.length ≤ 4611686018427387904 ∧ l.length ≤ cap := by
  obtain ⟨a, n, cap, rfl⟩ := okWide_slice Tryz.underlying32 h1
  obtain ⟨a2, n2, cap2, e, h1, h2, h3, h4⟩ := o1.slice Tryz.underlying32 (sz := 5) (by kernel_rfl)
  simp [Value.cells] at e
  obtain ⟨rfl, rfl, rfl⟩ := e
  rw [show Tryz.prog.bytesOf 45 = 48 by kernel_rfl] at h3
  obtain ⟨l, hl, hr, hq⟩ := rd_of (w := w) rcc 5 (by omega) rcc_len (a := a) (n := n) (fun r => r.dt.length ≤ 140737488351232) (fun i hi => by
    obtain ⟨cs', hlen, ⟨ad, hx, hc⟩, hop⟩ := h4 i hi
    obtain ⟨r, e2, hB⟩ := op_rc hop
    subst e2
    exact ⟨r, ⟨ad, hx, hc⟩, hB⟩)
  subst hl
  exact ⟨l, _, _, rfl, hr, hq, by omega, h1⟩

end Go.Proofs.YtnkbphecabnnaaaGreatDoor
namespace Go.Proofs.YtnkbphecabnnaaaGreatDoor
open Go.RowKit
set_option linter.unusedSimpArgs false
set_option linter.unusedVariables false

theorem run_build_empty {P : Program} (w : World) (t e : TypeId) (ie : TypeInfo) (z : Value) (hu : P.underlying t = some (.slice e)) (hie : P.info? e = some ie) (hz : ie.zero = some z) :
    (Instr.buildSlice t 0 #[]).run P w = .ok (.slice (some ⟨w.heap.size, 0, none⟩) 0 0) (w.alloc (.cells #[] e)) := by
  simp [Instr.buildSlice, run_underlying hu, sizeOf, typeInfo, zeroValue, hie, hz, Instr.fill, newRow]
  rw [show Array.map (fun _ => (default : Value)) (Array.range 0) = #[] from Array.eq_empty_of_size_eq_zero (by simp)]
theorem wpList_build_empty {P : Program} {ops : Array Oper} {rest : List Oper} {o : Oper} {a : Act} {w : World} {Q : Exit → Act → World → Prop} (hw : Region.wanted o (yielded ops a.tmps) = true) (t e : TypeId) (ho : o.op = .buildSlice t 0 #[])
    (ie : TypeInfo) (z : Value) (hu : P.underlying t = some (.slice e)) (hie : P.info? e = some ie) (hz : ie.zero = some z)
    (h : wpList P ops Q rest (a.put o.dst (.slice (some ⟨w.heap.size, 0, none⟩) 0 0)) (w.alloc (.cells #[] e))) : wpList P ops Q (o :: rest) a w := by
  refine wpList_step fun K hK => ?_
  rw [if_pos hw]
  unfold Oper.wp execOp
  simp only [ho, Sem.run_bind, List.map_toArray, List.map_nil, Array.map_empty, run_build_empty w t e ie z hu hie hz, Result.andThen_ok]
  exact hK _ _ h
theorem wpList_append_let {P : Program} {w : World} {ops : Array Oper} {rest : List Oper} {o : Oper} {ac : Act} {Q : Exit → Act → World → Prop} (hw : Region.wanted o (yielded ops ac.tmps) = true) (sl x : Operand) (t T : TypeId)
    (ho : o.op = .call { callee := .builtin .append, args := #[sl, x], argTypes := #[t, T] })
    (e : TypeId) (i : TypeInfo) (z : Value) (sz bytes : Nat) (ht : P.underlying t = some (.slice e)) (hi : P.info? e = some i) (hz : i.zero = some z)
    (hsize : i.size = sz) (hby : i.bytes = bytes) (hzs : z.cells.size = sz) {a : Option Addr} {n cap : Nat} {xs : List Value} (hv : ac.eval sl = .slice a n cap) (hr : Row w sz a n cap xs)
    {y : Value} {m : Nat} {news : List Value} (hx : ac.eval x = y) (hs : Src P w sz T y m news) (h63 : n + m ≤ maxLen) (hbytes : (n + m) * bytes ≤ 140737488355328) (hb0 : 0 < bytes)
    (h : ∀ a' cap' w', Row w' sz a' (n + m) cap' (xs ++ news) → Step (blks a) (blks a') w w' → wpList P ops Q rest (ac.put o.dst (.slice a' (n + m) cap')) w') : wpList P ops Q (o :: rest) ac w := by
  refine wpList_step fun K hK => ?_
  rw [if_pos hw]
  exact wp_append_row sl x t T ho e i z sz bytes ht hi hz hsize hby hzs hv hr hx hs h63 hbytes hb0 fun a' cap' w' h2 h3 => hK _ _ (h a' cap' w' h2 h3)
end Go.Proofs.YtnkbphecabnnaaaGreatDoor
