/-
 The reference's Act, Acts. Condition: at most 2^40 acts.
-/
import Derived.Test.YtjfaplmojpldhaaZReqM
namespace Go.Proofs.Ytjfaplmojpldhaa
open Go.RowKit
set_option linter.unusedSimpArgs false
set_option linter.unusedVariables false
set_option maxRecDepth 100000

theorem Try.sDoQ : StructOf Try.prog 108 7 := ⟨by kernel_rfl, _, Try.underlying108⟩
set_option maxHeartbeats 4000000 in
theorem ract1_any (d : Da) (w : World) (hk : d.kind = 1) : Calls Try.prog 88 #[daV d] w fun e w' => e = .returned (daV (actL d)) ∧ Step [] [] w w' := by
 have HC := Lib.hid (show actL d = ⟨d.kind, d.fr, d.to_, [], [], d.rev, d.most⟩ by simp [actL, hk])
 have k1 : (d.kind == 1) = true := by simp [hk]
 have k2 : (d.kind == 2) = false := by simp [hk]
 have k3 : (d.kind == 3) = false := by simp [hk]
 clear hk
 go_enter Try.func88, Try.ntmps88
 go_upto_region 5 with fail
 obtain ⟨b, hb⟩ : ∃ b, b = w.heap.size := ⟨_, rfl⟩
 obtain ⟨V, hV⟩ : ∃ V, V = ((w.alloc (.cells #[.int .i64 d.kind, Str d.fr, Str d.to_, Str d.key, Str d.val, .int .i64 d.rev, .int .i64 d.most] 108)).alloc (.cells #[.int .i64 0, .string ⟨#[]⟩, .string ⟨#[]⟩, .string ⟨#[]⟩, .string ⟨#[]⟩, .int .i64 0, .int .i64 0] 108)).alloc (.cells #[.int .i64 d.kind, .string ⟨d.fr.toArray⟩, .string ⟨d.to_.toArray⟩, .string ⟨#[]⟩, .string ⟨#[]⟩, .int .i64 0, .int .i64 0] 108) := ⟨_, rfl⟩
 have H1 : Hid (Blk V b 108 (dac d).toArray ∧ Blk V (b + 1) 108 #[.int .i64 0, .string ⟨#[]⟩, .string ⟨#[]⟩, .string ⟨#[]⟩, .string ⟨#[]⟩, .int .i64 0, .int .i64 0] ∧ Blk V (b + 1 + 1) 108 #[.int .i64 d.kind, .string ⟨d.fr.toArray⟩, .string ⟨d.to_.toArray⟩, .string ⟨#[]⟩, .string ⟨#[]⟩, .int .i64 0, .int .i64 0] ∧ Step [] [] w V ∧ b = w.heap.size) := by
  rw [hV, hb]
  have B := blk3q w 108 108 108 #[.int .i64 d.kind, Str d.fr, Str d.to_, Str d.key, Str d.val, .int .i64 d.rev, .int .i64 d.most] #[.int .i64 0, .string ⟨#[]⟩, .string ⟨#[]⟩, .string ⟨#[]⟩, .string ⟨#[]⟩, .int .i64 0, .int .i64 0] #[.int .i64 d.kind, .string ⟨d.fr.toArray⟩, .string ⟨d.to_.toArray⟩, .string ⟨#[]⟩, .string ⟨#[]⟩, .int .i64 0, .int .i64 0]
  exact ⟨B.1, B.2.1, B.2.2, (((Step.refl [] w).alloc _).alloc _).alloc _, rfl⟩
 rw [← hV, ← hb]
 clear hV hb
 have rc := (H1.out.2.2.1).cell
 have r0 := rc 0
 have r1 := rc 1
 have r2 := rc 2
 have r3 := rc 3
 have r4 := rc 4
 have r5 := rc 5
 have r6 := rc 6
 clear rc
 simp only [List.getElem?_toArray, List.getElem?_cons_zero, List.getElem?_cons_succ] at r0 r1 r2 r3 r4 r5 r6
 have rl := (H1.out.2.2.1).lt
 have rfz := (H1.out.2.2.1).frozen
 have rf0 := rfz 0
 have rf1 := rfz 1
 have rf2 := rfz 2
 have rf3 := rfz 3
 have rf4 := rfz 4
 have rf5 := rfz 5
 have rf6 := rfz 6
 clear rfz
 refine wp_region_held_drew (S := fun V => Hid (Blk V b 108 (dac d).toArray)) (by kernel_rfl) (Lib.hid H1.out.1.drew) (fun hHeld => ?_)
 refine wpAnyH_take (i := 0) (v := ?_) rfl (by kernel_rfl) (by kernel_rfl) (by kernel_rfl) (fun _ _ _ h => h) (Or.inl ⟨by rfl, ?_⟩) hHeld ?_
 rotate_left
 ·intro w hSw1
  try dsimp only at hSw1
  go_simp
  try (with_reducible rfl)
 try simp only [Act.put, LsA, LsB, LsC, LsD, LsE, LsF]
 refine wpAnyH_take (i := 1) (v := ?_) rfl (by kernel_rfl) (by kernel_rfl) (by kernel_rfl) (fun _ _ _ h => h) (Or.inl ⟨by rfl, ?_⟩) hHeld ?_
 rotate_left
 ·intro w hSw1
  have tc := hSw1.out.cell
  have t0 := tc 0
  have t1 := tc 1
  have t2 := tc 2
  have t3 := tc 3
  have t4 := tc 4
  have t5 := tc 5
  have t6 := tc 6
  clear tc
  simp only [dac, List.getElem?_toArray, List.getElem?_cons_zero, List.getElem?_cons_succ] at t0 t1 t2 t3 t4 t5 t6
  have tl := hSw1.out.lt
  go_simp
  try (with_reducible rfl)
 try simp only [Act.put, LsA, LsB, LsC, LsD, LsE, LsF]
 refine wpAnyH_take (i := 2) (v := ?_) rfl (by kernel_rfl) (by kernel_rfl) (by kernel_rfl) (fun _ _ _ h => h) (Or.inl ⟨by rfl, ?_⟩) hHeld ?_
 rotate_left
 ·intro w hSw1
  try dsimp only at hSw1
  go_simp
  try (with_reducible rfl)
 try simp only [Act.put, LsA, LsB, LsC, LsD, LsE, LsF]
 refine wpAnyH_take (i := 3) (v := ?_) rfl (by kernel_rfl) (by kernel_rfl) (by kernel_rfl) (fun _ _ _ h => h) (Or.inl ⟨by rfl, ?_⟩) hHeld ?_
 rotate_left
 ·intro w hSw1
  have tc := hSw1.out.cell
  have t0 := tc 0
  have t1 := tc 1
  have t2 := tc 2
  have t3 := tc 3
  have t4 := tc 4
  have t5 := tc 5
  have t6 := tc 6
  clear tc
  simp only [dac, List.getElem?_toArray, List.getElem?_cons_zero, List.getElem?_cons_succ] at t0 t1 t2 t3 t4 t5 t6
  have tl := hSw1.out.lt
  go_simp
  try (with_reducible rfl)
 try simp only [Act.put, LsA, LsB, LsC, LsD, LsE, LsF]
 refine wpAnyH_take (i := 4) (v := ?_) rfl (by kernel_rfl) (by kernel_rfl) (by kernel_rfl) (fun _ _ _ h => h) (Or.inl ⟨by rfl, ?_⟩) hHeld ?_
 rotate_left
 ·intro w hSw1
  try dsimp only at hSw1
  go_simp
  try (with_reducible rfl)
 try simp only [Act.put, LsA, LsB, LsC, LsD, LsE, LsF]
 refine wpAnyH_ready (rs := [5]) (by kernel_rfl) (by simp) ?_
 refine AllReadyH.cons rfl (fun K hK => ?_) AllReadyH.nil
 go_simp
 skip
 go_wp2_with fail
 refine hK.out _ _ (Lib.hid (Blk.far (p := ⟨b + 1 + 1, 5, none⟩) hHeld.out (by simp; omega) _)) (fun hHeld2 => ?_)
 clear hK K hHeld
 try simp only [Act.put, LsA, LsB, LsC, LsD, LsE, LsF]
 refine wpAnyH_take (i := 6) (v := ?_) rfl (by kernel_rfl) (by kernel_rfl) (by kernel_rfl) (fun _ _ _ h => h) (Or.inl ⟨by rfl, ?_⟩) hHeld2 ?_
 rotate_left
 ·intro w hSw1
  try dsimp only at hSw1
  go_simp
  try (with_reducible rfl)
 try simp only [Act.put, LsA, LsB, LsC, LsD, LsE, LsF]
 refine wpAnyH_ready (rs := [7]) (by kernel_rfl) (by simp) ?_
 refine AllReadyH.cons rfl (fun K hK => ?_) AllReadyH.nil
 go_simp
 skip
 go_wp2_with fail
 refine hK.out _ _ (Lib.hid (Blk.far (p := ⟨b + 1 + 1, 6, none⟩) hHeld2.out (by simp; omega) _)) (fun hHeld3 => ?_)
 clear hK K hHeld2
 try simp only [Act.put, LsA, LsB, LsC, LsD, LsE, LsF]
 refine wpAnyH_done (by kernel_rfl) ?_ _
 obtain ⟨W, hW⟩ : ∃ W, W = ((V.setCell ⟨b + 1 + 1, 5, none⟩ (.int .i64 d.rev)).setCell ⟨b + 1 + 1, 6, none⟩ (.int .i64 d.most)).drew := ⟨_, rfl⟩
 have ss0 : Step [b + 1 + 1] [b + 1 + 1] V W := by rw [hW]; exact (((Step.refl [b + 1 + 1] V).setCell (.inl (by simp)) _).setCell (.inl (by simp)) _).drew
 have N : Hid (Blk W (b + 1 + 1) 108 (dac ⟨d.kind, d.fr, d.to_, [], [], d.rev, d.most⟩).toArray ∧ Blk W (b + 1) 108 #[.int .i64 0, .string ⟨#[]⟩, .string ⟨#[]⟩, .string ⟨#[]⟩, .string ⟨#[]⟩, .int .i64 0, .int .i64 0] ∧ Step [] [] w W ∧ Blk W b 108 (dac d).toArray) := ⟨by rw [hW]; have hq := ((H1.out.2.2.1.set 5 (.int .i64 d.rev)).set 6 (.int .i64 d.most)).drew; simpa [dac] using hq, H1.out.2.1.step ss0 (by simp), H1.out.2.2.2.1.out1' ss0 (by have := H1.out.2.2.2.2; simp; omega), H1.out.1.step ss0 (by simp; omega)⟩
 rw [← hW]
 clear hW ss0 r0 r1 r2 r3 r4 r5 r6 rl rf0 rf1 rf2 rf3 rf4 rf5 rf6
 have qc := (N.out.2.2.2).cell
 have q0 := qc 0
 have q1 := qc 1
 have q2 := qc 2
 have q3 := qc 3
 have q4 := qc 4
 have q5 := qc 5
 have q6 := qc 6
 clear qc
 simp only [dac, List.getElem?_toArray, List.getElem?_cons_zero, List.getElem?_cons_succ] at q0 q1 q2 q3 q4 q5 q6
 have ql := (N.out.2.2.2).lt
 go_upto_region 8 with fail
 clear q0 q1 q2 q3 q4 q5 q6 ql
 go_wp2_with (first | (refine wpList_loadRow (T := 108) (b := b + 1 + 1) (T' := 108) (cs := (dac ⟨d.kind, d.fr, d.to_, [], [], d.rev, d.most⟩).toArray) rfl (.tmp 3) rfl rfl Try.sDoQ N.out.1 ?_) | (refine wpList_storeRow (T := 108) (b := b + 1) (T' := 108) (cs := #[.int .i64 0, .string ⟨#[]⟩, .string ⟨#[]⟩, .string ⟨#[]⟩, .string ⟨#[]⟩, .int .i64 0, .int .i64 0]) (vs := (dac ⟨d.kind, d.fr, d.to_, [], [], d.rev, d.most⟩).toArray) rfl (.tmp 2) (.tmp 36) rfl rfl rfl Try.sDoQ N.out.2.1 rfl (by simp [dac, Value.oneCell']) ?_; intro U Q ss))
 have so := N.out.2.2.1.out1' ss (by have := H1.out.2.2.2.2; simp; omega)
 refine bodyPost_ret (v := .agg (dac ⟨d.kind, d.fr, d.to_, [], [], d.rev, d.most⟩).toArray) ?_ rfl ⟨by rw [HC.out]; rfl, so⟩
 exact res_row rfl _ rfl Try.sDoQ Q
set_option maxHeartbeats 4000000 in
theorem ract2_any (d : Da) (w : World) (hk : d.kind = 2) : Calls Try.prog 88 #[daV d] w fun e w' => e = .returned (daV (actL d)) ∧ Step [] [] w w' := by
 have HC := Lib.hid (show actL d = ⟨d.kind, [], [], d.key, d.val, 0, 0⟩ by simp [actL, hk])
 have k1 : (d.kind == 1) = false := by simp [hk]
 have k2 : (d.kind == 2) = true := by simp [hk]
 have k3 : (d.kind == 3) = false := by simp [hk]
 clear hk
 go_enter Try.func88, Try.ntmps88
 go_upto_region 7 with fail
 obtain ⟨b, hb⟩ : ∃ b, b = w.heap.size := ⟨_, rfl⟩
 obtain ⟨V, hV⟩ : ∃ V, V = ((w.alloc (.cells #[.int .i64 d.kind, Str d.fr, Str d.to_, Str d.key, Str d.val, .int .i64 d.rev, .int .i64 d.most] 108)).alloc (.cells #[.int .i64 0, .string ⟨#[]⟩, .string ⟨#[]⟩, .string ⟨#[]⟩, .string ⟨#[]⟩, .int .i64 0, .int .i64 0] 108)).alloc (.cells #[.int .i64 d.kind, .string ⟨#[]⟩, .string ⟨#[]⟩, .string ⟨#[]⟩, .string ⟨#[]⟩, .int .i64 0, .int .i64 0] 108) := ⟨_, rfl⟩
 have H1 : Hid (Blk V b 108 (dac d).toArray ∧ Blk V (b + 1) 108 #[.int .i64 0, .string ⟨#[]⟩, .string ⟨#[]⟩, .string ⟨#[]⟩, .string ⟨#[]⟩, .int .i64 0, .int .i64 0] ∧ Blk V (b + 1 + 1) 108 #[.int .i64 d.kind, .string ⟨#[]⟩, .string ⟨#[]⟩, .string ⟨#[]⟩, .string ⟨#[]⟩, .int .i64 0, .int .i64 0] ∧ Step [] [] w V ∧ b = w.heap.size) := by
  rw [hV, hb]
  have B := blk3q w 108 108 108 #[.int .i64 d.kind, Str d.fr, Str d.to_, Str d.key, Str d.val, .int .i64 d.rev, .int .i64 d.most] #[.int .i64 0, .string ⟨#[]⟩, .string ⟨#[]⟩, .string ⟨#[]⟩, .string ⟨#[]⟩, .int .i64 0, .int .i64 0] #[.int .i64 d.kind, .string ⟨#[]⟩, .string ⟨#[]⟩, .string ⟨#[]⟩, .string ⟨#[]⟩, .int .i64 0, .int .i64 0]
  exact ⟨B.1, B.2.1, B.2.2, (((Step.refl [] w).alloc _).alloc _).alloc _, rfl⟩
 rw [← hV, ← hb]
 clear hV hb
 have rc := (H1.out.2.2.1).cell
 have r0 := rc 0
 have r1 := rc 1
 have r2 := rc 2
 have r3 := rc 3
 have r4 := rc 4
 have r5 := rc 5
 have r6 := rc 6
 clear rc
 simp only [List.getElem?_toArray, List.getElem?_cons_zero, List.getElem?_cons_succ] at r0 r1 r2 r3 r4 r5 r6
 have rl := (H1.out.2.2.1).lt
 have rfz := (H1.out.2.2.1).frozen
 have rf0 := rfz 0
 have rf1 := rfz 1
 have rf2 := rfz 2
 have rf3 := rfz 3
 have rf4 := rfz 4
 have rf5 := rfz 5
 have rf6 := rfz 6
 clear rfz
 refine wp_region_held_drew (S := fun V => Hid (Blk V b 108 (dac d).toArray)) (by kernel_rfl) (Lib.hid H1.out.1.drew) (fun hHeld => ?_)
 refine wpAnyH_take (i := 0) (v := ?_) rfl (by kernel_rfl) (by kernel_rfl) (by kernel_rfl) (fun _ _ _ h => h) (Or.inl ⟨by rfl, ?_⟩) hHeld ?_
 rotate_left
 ·intro w hSw1
  try dsimp only at hSw1
  go_simp
  try (with_reducible rfl)
 try simp only [Act.put, LsA, LsB, LsC, LsD, LsE, LsF]
 refine wpAnyH_take (i := 1) (v := ?_) rfl (by kernel_rfl) (by kernel_rfl) (by kernel_rfl) (fun _ _ _ h => h) (Or.inl ⟨by rfl, ?_⟩) hHeld ?_
 rotate_left
 ·intro w hSw1
  have tc := hSw1.out.cell
  have t0 := tc 0
  have t1 := tc 1
  have t2 := tc 2
  have t3 := tc 3
  have t4 := tc 4
  have t5 := tc 5
  have t6 := tc 6
  clear tc
  simp only [dac, List.getElem?_toArray, List.getElem?_cons_zero, List.getElem?_cons_succ] at t0 t1 t2 t3 t4 t5 t6
  have tl := hSw1.out.lt
  go_simp
  try (with_reducible rfl)
 try simp only [Act.put, LsA, LsB, LsC, LsD, LsE, LsF]
 refine wpAnyH_take (i := 2) (v := ?_) rfl (by kernel_rfl) (by kernel_rfl) (by kernel_rfl) (fun _ _ _ h => h) (Or.inl ⟨by rfl, ?_⟩) hHeld ?_
 rotate_left
 ·intro w hSw1
  try dsimp only at hSw1
  go_simp
  try (with_reducible rfl)
 try simp only [Act.put, LsA, LsB, LsC, LsD, LsE, LsF]
 refine wpAnyH_take (i := 3) (v := ?_) rfl (by kernel_rfl) (by kernel_rfl) (by kernel_rfl) (fun _ _ _ h => h) (Or.inl ⟨by rfl, ?_⟩) hHeld ?_
 rotate_left
 ·intro w hSw1
  have tc := hSw1.out.cell
  have t0 := tc 0
  have t1 := tc 1
  have t2 := tc 2
  have t3 := tc 3
  have t4 := tc 4
  have t5 := tc 5
  have t6 := tc 6
  clear tc
  simp only [dac, List.getElem?_toArray, List.getElem?_cons_zero, List.getElem?_cons_succ] at t0 t1 t2 t3 t4 t5 t6
  have tl := hSw1.out.lt
  go_simp
  try (with_reducible rfl)
 try simp only [Act.put, LsA, LsB, LsC, LsD, LsE, LsF]
 refine wpAnyH_take (i := 4) (v := ?_) rfl (by kernel_rfl) (by kernel_rfl) (by kernel_rfl) (fun _ _ _ h => h) (Or.inl ⟨by rfl, ?_⟩) hHeld ?_
 rotate_left
 ·intro w hSw1
  try dsimp only at hSw1
  go_simp
  try (with_reducible rfl)
 try simp only [Act.put, LsA, LsB, LsC, LsD, LsE, LsF]
 refine wpAnyH_ready (rs := [5]) (by kernel_rfl) (by simp) ?_
 refine AllReadyH.cons rfl (fun K hK => ?_) AllReadyH.nil
 go_simp
 skip
 go_wp2_with fail
 refine hK.out _ _ (Lib.hid (Blk.far (p := ⟨b + 1 + 1, 3, none⟩) hHeld.out (by simp; omega) _)) (fun hHeld2 => ?_)
 clear hK K hHeld
 try simp only [Act.put, LsA, LsB, LsC, LsD, LsE, LsF]
 refine wpAnyH_take (i := 6) (v := ?_) rfl (by kernel_rfl) (by kernel_rfl) (by kernel_rfl) (fun _ _ _ h => h) (Or.inl ⟨by rfl, ?_⟩) hHeld2 ?_
 rotate_left
 ·intro w hSw1
  try dsimp only at hSw1
  go_simp
  try (with_reducible rfl)
 try simp only [Act.put, LsA, LsB, LsC, LsD, LsE, LsF]
 refine wpAnyH_ready (rs := [7]) (by kernel_rfl) (by simp) ?_
 refine AllReadyH.cons rfl (fun K hK => ?_) AllReadyH.nil
 go_simp
 skip
 go_wp2_with fail
 refine hK.out _ _ (Lib.hid (Blk.far (p := ⟨b + 1 + 1, 4, none⟩) hHeld2.out (by simp; omega) _)) (fun hHeld3 => ?_)
 clear hK K hHeld2
 try simp only [Act.put, LsA, LsB, LsC, LsD, LsE, LsF]
 refine wpAnyH_done (by kernel_rfl) ?_ _
 obtain ⟨W, hW⟩ : ∃ W, W = ((V.setCell ⟨b + 1 + 1, 3, none⟩ (.string ⟨d.key.toArray⟩)).setCell ⟨b + 1 + 1, 4, none⟩ (.string ⟨d.val.toArray⟩)).drew := ⟨_, rfl⟩
 have ss0 : Step [b + 1 + 1] [b + 1 + 1] V W := by rw [hW]; exact (((Step.refl [b + 1 + 1] V).setCell (.inl (by simp)) _).setCell (.inl (by simp)) _).drew
 have N : Hid (Blk W (b + 1 + 1) 108 (dac ⟨d.kind, [], [], d.key, d.val, 0, 0⟩).toArray ∧ Blk W (b + 1) 108 #[.int .i64 0, .string ⟨#[]⟩, .string ⟨#[]⟩, .string ⟨#[]⟩, .string ⟨#[]⟩, .int .i64 0, .int .i64 0] ∧ Step [] [] w W ∧ Blk W b 108 (dac d).toArray) := ⟨by rw [hW]; have hq := ((H1.out.2.2.1.set 3 (.string ⟨d.key.toArray⟩)).set 4 (.string ⟨d.val.toArray⟩)).drew; simpa [dac] using hq, H1.out.2.1.step ss0 (by simp), H1.out.2.2.2.1.out1' ss0 (by have := H1.out.2.2.2.2; simp; omega), H1.out.1.step ss0 (by simp; omega)⟩
 rw [← hW]
 clear hW ss0 r0 r1 r2 r3 r4 r5 r6 rl rf0 rf1 rf2 rf3 rf4 rf5 rf6
 have qc := (N.out.2.2.2).cell
 have q0 := qc 0
 have q1 := qc 1
 have q2 := qc 2
 have q3 := qc 3
 have q4 := qc 4
 have q5 := qc 5
 have q6 := qc 6
 clear qc
 simp only [dac, List.getElem?_toArray, List.getElem?_cons_zero, List.getElem?_cons_succ] at q0 q1 q2 q3 q4 q5 q6
 have ql := (N.out.2.2.2).lt
 go_upto_region 8 with fail
 clear q0 q1 q2 q3 q4 q5 q6 ql
 go_wp2_with (first | (refine wpList_loadRow (T := 108) (b := b + 1 + 1) (T' := 108) (cs := (dac ⟨d.kind, [], [], d.key, d.val, 0, 0⟩).toArray) rfl (.tmp 3) rfl rfl Try.sDoQ N.out.1 ?_) | (refine wpList_storeRow (T := 108) (b := b + 1) (T' := 108) (cs := #[.int .i64 0, .string ⟨#[]⟩, .string ⟨#[]⟩, .string ⟨#[]⟩, .string ⟨#[]⟩, .int .i64 0, .int .i64 0]) (vs := (dac ⟨d.kind, [], [], d.key, d.val, 0, 0⟩).toArray) rfl (.tmp 2) (.tmp 36) rfl rfl rfl Try.sDoQ N.out.2.1 rfl (by simp [dac, Value.oneCell']) ?_; intro U Q ss))
 have so := N.out.2.2.1.out1' ss (by have := H1.out.2.2.2.2; simp; omega)
 refine bodyPost_ret (v := .agg (dac ⟨d.kind, [], [], d.key, d.val, 0, 0⟩).toArray) ?_ rfl ⟨by rw [HC.out]; rfl, so⟩
 exact res_row rfl _ rfl Try.sDoQ Q
set_option maxHeartbeats 4000000 in
theorem ract3_any (d : Da) (w : World) (hk : d.kind = 3) : Calls Try.prog 88 #[daV d] w fun e w' => e = .returned (daV (actL d)) ∧ Step [] [] w w' := by
 have HC := Lib.hid (show actL d = ⟨d.kind, d.fr, d.to_, [], [], 0, 0⟩ by simp [actL, hk])
 have k1 : (d.kind == 1) = false := by simp [hk]
 have k2 : (d.kind == 2) = false := by simp [hk]
 have k3 : (d.kind == 3) = true := by simp [hk]
 clear hk
 go_enter Try.func88, Try.ntmps88
 go_wp2_with fail
 refine bodyPost_ret (v := daV (actL d)) ?_ rfl ⟨rfl, (((Step.refl [] w).alloc _).alloc _).alloc _⟩
 rw [HC.out]
 simp [results, Try.results88, go_sem]
set_option maxHeartbeats 4000000 in
theorem ract0_any (d : Da) (w : World) (hk : ¬ d.kind = 1 ∧ ¬ d.kind = 2 ∧ ¬ d.kind = 3) : Calls Try.prog 88 #[daV d] w fun e w' => e = .returned (daV (actL d)) ∧ Step [] [] w w' := by
 have HC := Lib.hid (show actL d = ⟨d.kind, [], [], [], [], 0, 0⟩ by simp [actL, hk])
 have k1 : (d.kind == 1) = false := by simp [hk]
 have k2 : (d.kind == 2) = false := by simp [hk]
 have k3 : (d.kind == 3) = false := by simp [hk]
 clear hk
 go_enter Try.func88, Try.ntmps88
 go_wp2_with fail
 refine bodyPost_ret (v := daV (actL d)) ?_ rfl ⟨rfl, (((Step.refl [] w).alloc _).alloc _).alloc _⟩
 rw [HC.out]
 simp [results, Try.results88, go_sem]
theorem ract_any (d : Da) (w : World) : Calls Try.prog 88 #[daV d] w fun e w' => e = .returned (daV (actL d)) ∧ Step [] [] w w' := by
 by_cases h1 : d.kind = 1
 ·exact ract1_any d w h1
 ·by_cases h2 : d.kind = 2
  ·exact ract2_any d w h2
  ·by_cases h3 : d.kind = 3
   ·exact ract3_any d w h3
   ·exact ract0_any d w ⟨h1, h2, h3⟩
set_option maxHeartbeats 4000000 in
theorem racts_any (l : List Da) (a : Option Addr) (cap : Nat) (w : World) (hr : Rd w 7 a l.length (dacs l)) (hl : l.length ≤ 1099511627776) :
  Calls Try.prog 84 #[.slice a l.length cap] w (PlainsP l w) := by
 have HR := Lib.hid hr
 clear hr
 obtain ⟨i0, hi, hz0, hz1, hz2⟩ := info_parts Try.info_do
 have HI := Lib.hid (And.intro hi (And.intro hz0 (And.intro hz1 hz2)))
 clear hi hz0 hz1 hz2
 go_enter Try.func84, Try.ntmps84
 go_wp2_with fail
 have R0 : Hid (Row (w.alloc (.cells #[] 108)) 7 (some ⟨w.heap.size, 0, none⟩) 0 0 (dacs (([] : List Da).map actL)) ∧ Step [] (blks (some ⟨w.heap.size, 0, none⟩)) w (w.alloc (.cells #[] 108))) := ⟨Row.empty w 108 7, ((Step.refl [] w).hold _)⟩
 go_loopw [3, 4] (fun o i W => ∃ (k : Nat) (b : Option Addr) (c : Nat), k ≤ l.length ∧ i = .int .i64 k ∧ o = .slice b k c ∧ Hid (Row W 7 b k c (dacs ((l.take k).map actL)) ∧ Step [] (blks b) w W)) (fun _ i _ => l.length - (intOf i).toNat)
 case atStart => exact ⟨0, _, 0, by omega, rfl, rfl, R0.out.1, R0.out.2⟩
 case round =>
  clear R0
  rename World => W
  obtain ⟨k, b, c, hk, rfl, rfl, HW⟩ := hrel
  by_cases hlt : k < l.length
  ·have hlt' : (k : Int) < l.length := by omega
   obtain ⟨d, hd⟩ : ∃ d, l[k]? = some d := ⟨_, List.getElem?_eq_getElem hlt⟩
   have hrd := HR.out.step0 HW.out.2
   obtain ⟨g, off, hsa⟩ := hrd.some_ (by omega)
   subst hsa
   have cd := rd_da hrd hd
   have gl : g < W.heap.size := by have := World.block_lt_of_cell? _ _ cd.1; simpa using this
   have HX := Lib.hid hd
   clear hd hrd
   go_wp2_with fail
   refine (ract_any d _).mono ?_
   rintro e W1 ⟨rfl, k1⟩
   have H1 : Hid (Row W1 7 b k c (dacs ((l.take k).map actL)) ∧ Step [] (blks b) w W1) := by
    exact ⟨HW.out.1.step k1 (by simp), HW.out.2.trans (by simpa using k1.frame (blks b))⟩
   obtain ⟨y, hy⟩ : ∃ y, y = actL d := ⟨_, rfl⟩
   have HY := Lib.hid hy
   rw [← hy]
   clear k1 cd gl hy
   obtain ⟨eb, heb⟩ : ∃ eb, eb = W1.heap.size := ⟨_, rfl⟩
   obtain ⟨W2, hW2⟩ : ∃ W2, W2 = W1.alloc (.cells (dac y).toArray 108) := ⟨_, rfl⟩
   have H2 : Hid (Row W2 7 b k c (dacs ((l.take k).map actL)) ∧ Step [] (blks b) w W2 ∧ Rd W2 7 (some ⟨eb, 0, none⟩) 1 (dacs [y])) := by
    rw [hW2, heb]
    exact ⟨H1.out.1.alloc _, H1.out.2.alloc _, rd_blk' (xs := dacs [y]) (by simpa [dacs] using Blk.new W1 108 (dac y).toArray) 7 1 rfl⟩
   have HW2 := Lib.hid hW2
   have HEB := Lib.hid heb
   clear hW2 heb H1
   go_wp2_with (at_builtin; rw [show W1.heap.size = eb from HEB.out.symm, show W1.alloc (.cells #[.int .i64 y.kind, .string ⟨y.fr.toArray⟩, .string ⟨y.to_.toArray⟩, .string ⟨y.key.toArray⟩, .string ⟨y.val.toArray⟩, .int .i64 y.rev, .int .i64 y.most] 108) = W2 from HW2.out.symm]; refine wpList_append_row rfl (.tmp 12) (.tmp 18) 42 42 rfl 108 i0 _ 7 88 Try.underlying42 HI.out.1 HI.out.2.1 HI.out.2.2.1 HI.out.2.2.2 rfl rfl H2.out.1 rfl (Src.rd 42 108 Try.underlying42 H2.out.2.2 (dacs_one _)) (by unfold maxLen; omega) (by omega) (by omega) ?_; intro a9 c9 w9 hr9 st9; rw [← dacs_app, HY.out, show (l.take k).map actL ++ [actL d] = (l.take (k + 1)).map actL by rw [List.take_add_one, HX.out]; simp] at hr9; have H9 : Hid (Row w9 7 a9 (k + 1) c9 (dacs ((l.take (k + 1)).map actL)) ∧ Step [] (blks a9) w w9) := ⟨hr9, H2.out.2.1.trans st9⟩; clear hr9 st9)
   go_wp2_with fail
   go_roundw
   case rel => exact ⟨k + 1, a9, c9, by omega, by go_num, rfl, H9.out⟩
   case measure => simp [intOf]; omega
  ·obtain rfl : k = l.length := by omega
   go_wp2_with fail
   refine bodyPost_ret (results_tmp rfl _ _ _) rfl ⟨b, c, rfl, ?_, HW.out.2⟩
   have := HW.out.1.rd
   rwa [List.take_length] at this
end Go.Proofs.Ytjfaplmojpldhaa
