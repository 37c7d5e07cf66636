/-
  law19's same: a chain in memory and the reference's of the same lines. Condition: at most 2^40 lines.
-/
import Derived.Test.YtdiacfbflbenoaaAuditM
namespace Go.Proofs.Ytdiacfbflbenoaa
open Go.RowKit
set_option linter.unusedSimpArgs false
set_option linter.unusedVariables false
set_option maxRecDepth 100000

set_option maxHeartbeats 8000000 in
theorem same19_any (p : Nat) (S : List Nat) (c : Ch) (a : Option Addr) (cap : Nat) (w : World) (h1 : Chn w p S c) (h2 : Row w 8 a c.ls.length cap (lncs c.ls)) (hc : ChOk c) :
    Calls Try.prog 16 #[.pointer (some ⟨p, 0, none⟩), .agg #[.int .i64 c.base.count, Str c.base.hash, .slice a c.ls.length cap]] w fun e w' => e = .returned (.bool true) ∧ Step [] [] w w' := by
  have H0 : Hid (Chn (w.alloc (.cells #[.int .i64 c.base.count, Str c.base.hash, .slice a c.ls.length cap] 29)) p S c ∧ Row (w.alloc (.cells #[.int .i64 c.base.count, Str c.base.hash, .slice a c.ls.length cap] 29)) 8 a c.ls.length cap (lncs c.ls) ∧ Step [] [] w (w.alloc (.cells #[.int .i64 c.base.count, Str c.base.hash, .slice a c.ls.length cap] 29)) ∧ Blk (w.alloc (.cells #[.int .i64 c.base.count, Str c.base.hash, .slice a c.ls.length cap] 29)) w.heap.size 29 #[.int .i64 c.base.count, Str c.base.hash, .slice a c.ls.length cap]) := ⟨h1.step ((Step.refl [] w).alloc _) (by simp), h2.alloc _, (Step.refl [] w).alloc _, Blk.new w _ _⟩
  have HC := Lib.hid hc
  clear h1 h2 hc
  go_enter Try.func16, Try.ntmps16
  go_wp2_with fail
  refine (base_any p S c _ H0.out.1).mono ?_
  rintro e w1 ⟨rfl, k1⟩
  obtain ⟨b, hb⟩ : ∃ b, b = w.heap.size := ⟨_, rfl⟩
  have H1 : Hid (Chn w1 p S c ∧ Row w1 8 a c.ls.length cap (lncs c.ls) ∧ Step [] [] w w1 ∧ Blk w1 b 29 #[.int .i64 c.base.count, Str c.base.hash, .slice a c.ls.length cap]) := by
    rw [hb]
    exact ⟨H0.out.1.step k1 (by simp), H0.out.2.1.step k1 (by simp), H0.out.2.2.1.trans k1, H0.out.2.2.2.step k1 (by simp)⟩
  rw [← hb]
  clear k1 H0 hb
  go_wp2_with fail
  refine (headOut_any p S c _ H1.out.1 HC.out).mono ?_
  rintro e w2 ⟨rfl, k2⟩
  have H2 : Hid (Chn w2 p S c ∧ Row w2 8 a c.ls.length cap (lncs c.ls) ∧ Step [] [] w w2 ∧ Blk w2 b 29 #[.int .i64 c.base.count, Str c.base.hash, .slice a c.ls.length cap]) :=
    ⟨H1.out.1.step k2 (by simp), H1.out.2.1.step k2 (by simp), H1.out.2.2.1.trans k2, H1.out.2.2.2.step k2 (by simp)⟩
  have HF := Lib.hid (refHead_any c a cap w2 H2.out.2.1 HC.out)
  obtain ⟨z, hz⟩ : ∃ z, z = headL c.base c.ls := ⟨_, rfl⟩
  rw [← hz] at HF ⊢
  clear k2 H1 hz
  have c0 := H2.out.2.2.2.cell 0
  have c1 := H2.out.2.2.2.cell 1
  have c2 := H2.out.2.2.2.cell 2
  have c3 := H2.out.2.2.2.lt
  simp only [List.getElem?_toArray, List.getElem?_cons_zero, List.getElem?_cons_succ] at c0 c1 c2
  go_wp2_with fail
  refine HF.out.mono ?_
  rintro e w3 ⟨rfl, k3⟩
  have H3 : Hid (Chn w3 p S c ∧ Row w3 8 a c.ls.length cap (lncs c.ls) ∧ Step [] [] w w3 ∧ Blk w3 b 29 #[.int .i64 c.base.count, Str c.base.hash, .slice a c.ls.length cap]) :=
    ⟨H2.out.1.step k3 (by simp), H2.out.2.1.step k3 (by simp), H2.out.2.2.1.trans k3, H2.out.2.2.2.step k3 (by simp)⟩
  clear k3 H2 HF c0 c1 c2 c3
  go_upto_region 4 with fail
  refine wp_region_held_drew (S := fun V => Hid (Blk V b 29 #[.int .i64 c.base.count, Str c.base.hash, .slice a c.ls.length cap])) (by kernel_rfl) (Lib.hid H3.out.2.2.2.drew) (fun hHeld => ?_)
  refine wpAnyH_take (i := 0) (v := ?_) rfl (by kernel_rfl) (by kernel_rfl) (by kernel_rfl) (fun _ _ _ h => h) (Or.inl ⟨by rfl, ?_⟩) hHeld ?_
  rotate_left
  · intro w hSw
    have hSw1 := hSw
    clear hSw
    try dsimp only at hSw1
    go_simp
    try (with_reducible rfl)
  try simp only [Act.put, List.setIfInBounds_toArray, List.set_cons_zero, List.set_cons_succ, List.getElem_toArray, List.getElem_cons_zero, List.getElem_cons_succ]
  refine wpAnyH_take (i := 1) (v := ?_) rfl (by kernel_rfl) (by kernel_rfl) (by kernel_rfl) (fun _ _ _ h => h) (Or.inl ⟨by rfl, ?_⟩) hHeld ?_
  rotate_left
  · intro w hSw
    have hSw1 := hSw
    clear hSw
    try dsimp only at hSw1
    go_simp
    try (with_reducible rfl)
  try simp only [Act.put, List.setIfInBounds_toArray, List.set_cons_zero, List.set_cons_succ, List.getElem_toArray, List.getElem_cons_zero, List.getElem_cons_succ]
  refine wpAnyH_take (i := 2) (v := ?_) rfl (by kernel_rfl) (by kernel_rfl) (by kernel_rfl) (fun _ _ _ h => h) (Or.inl ⟨by rfl, ?_⟩) hHeld ?_
  rotate_left
  · intro w hSw
    have hSw1 := hSw
    clear hSw
    have hb0 := hSw1.out.cell 0
    have hb1 := hSw1.out.cell 1
    have hb2 := hSw1.out.cell 2
    have hb3 := hSw1.out.lt
    simp only [List.getElem?_toArray, List.getElem?_cons_zero, List.getElem?_cons_succ] at hb0 hb1 hb2
    go_simp
    try (with_reducible rfl)
  try simp only [Act.put, List.setIfInBounds_toArray, List.set_cons_zero, List.set_cons_succ, List.getElem_toArray, List.getElem_cons_zero, List.getElem_cons_succ]
  refine wpAnyH_take (i := 3) (v := ?_) rfl (by kernel_rfl) (by kernel_rfl) (by kernel_rfl) (fun _ _ _ h => h) (Or.inl ⟨by rfl, ?_⟩) hHeld ?_
  rotate_left
  · intro w hSw
    have hSw1 := hSw
    clear hSw
    try dsimp only at hSw1
    go_simp
    try (with_reducible rfl)
  try simp only [Act.put, List.setIfInBounds_toArray, List.set_cons_zero, List.set_cons_succ, List.getElem_toArray, List.getElem_cons_zero, List.getElem_cons_succ]
  refine wpAnyH_take (i := 4) (v := ?_) rfl (by kernel_rfl) (by kernel_rfl) (by kernel_rfl) (fun _ _ _ h => h) (Or.inl ⟨by rfl, ?_⟩) hHeld ?_
  rotate_left
  · intro w hSw
    have hSw1 := hSw
    clear hSw
    try dsimp only at hSw1
    go_simp
    try (with_reducible rfl)
  try simp only [Act.put, List.setIfInBounds_toArray, List.set_cons_zero, List.set_cons_succ, List.getElem_toArray, List.getElem_cons_zero, List.getElem_cons_succ]
  refine wpAnyH_take (i := 5) (v := ?_) rfl (by kernel_rfl) (by kernel_rfl) (by kernel_rfl) (fun _ _ _ h => h) (Or.inl ⟨by rfl, ?_⟩) hHeld ?_
  rotate_left
  · intro w hSw
    have hSw1 := hSw
    clear hSw
    try dsimp only at hSw1
    go_simp
    try (with_reducible rfl)
  try simp only [Act.put, List.setIfInBounds_toArray, List.set_cons_zero, List.set_cons_succ, List.getElem_toArray, List.getElem_cons_zero, List.getElem_cons_succ]
  refine wpAnyH_take (i := 6) (v := ?_) rfl (by kernel_rfl) (by kernel_rfl) (by kernel_rfl) (fun _ _ _ h => h) (Or.inl ⟨by rfl, ?_⟩) hHeld ?_
  rotate_left
  · intro w hSw
    have hSw1 := hSw
    clear hSw
    try dsimp only at hSw1
    go_simp
    try (with_reducible rfl)
  try simp only [Act.put, List.setIfInBounds_toArray, List.set_cons_zero, List.set_cons_succ, List.getElem_toArray, List.getElem_cons_zero, List.getElem_cons_succ]
  refine wpAnyH_take (i := 7) (v := ?_) rfl (by kernel_rfl) (by kernel_rfl) (by kernel_rfl) (fun _ _ _ h => h) (Or.inl ⟨by rfl, ?_⟩) hHeld ?_
  rotate_left
  · intro w hSw
    have hSw1 := hSw
    clear hSw
    have hb0 := hSw1.out.cell 0
    have hb1 := hSw1.out.cell 1
    have hb2 := hSw1.out.cell 2
    have hb3 := hSw1.out.lt
    simp only [List.getElem?_toArray, List.getElem?_cons_zero, List.getElem?_cons_succ] at hb0 hb1 hb2
    go_simp
    try (with_reducible rfl)
  try simp only [Act.put, List.setIfInBounds_toArray, List.set_cons_zero, List.set_cons_succ, List.getElem_toArray, List.getElem_cons_zero, List.getElem_cons_succ]
  refine wpAnyH_take (i := 8) (v := ?_) rfl (by kernel_rfl) (by kernel_rfl) (by kernel_rfl) (fun _ _ _ h => h) (Or.inl ⟨by rfl, ?_⟩) hHeld ?_
  rotate_left
  · intro w hSw
    have hSw1 := hSw
    clear hSw
    try dsimp only at hSw1
    go_simp
    try (with_reducible rfl)
  try simp only [Act.put, List.setIfInBounds_toArray, List.set_cons_zero, List.set_cons_succ, List.getElem_toArray, List.getElem_cons_zero, List.getElem_cons_succ]
  refine wpAnyH_take (i := 9) (v := ?_) rfl (by kernel_rfl) (by kernel_rfl) (by kernel_rfl) (fun _ _ _ h => h) (Or.inl ⟨by rfl, ?_⟩) hHeld ?_
  rotate_left
  · intro w hSw
    have hSw1 := hSw
    clear hSw
    try dsimp only at hSw1
    go_simp
    try (with_reducible rfl)
  try simp only [Act.put, List.setIfInBounds_toArray, List.set_cons_zero, List.set_cons_succ, List.getElem_toArray, List.getElem_cons_zero, List.getElem_cons_succ]
  refine wpAnyH_take (i := 10) (v := ?_) rfl (by kernel_rfl) (by kernel_rfl) (by kernel_rfl) (fun _ _ _ h => h) (Or.inl ⟨by rfl, ?_⟩) hHeld ?_
  rotate_left
  · intro w hSw
    have hSw1 := hSw
    clear hSw
    try dsimp only at hSw1
    go_simp
    try (with_reducible rfl)
  try simp only [Act.put, List.setIfInBounds_toArray, List.set_cons_zero, List.set_cons_succ, List.getElem_toArray, List.getElem_cons_zero, List.getElem_cons_succ]
  refine wpAnyH_take (i := 11) (v := ?_) rfl (by kernel_rfl) (by kernel_rfl) (by kernel_rfl) (fun _ _ _ h => h) (Or.inl ⟨by rfl, ?_⟩) hHeld ?_
  rotate_left
  · intro w hSw
    have hSw1 := hSw
    clear hSw
    try dsimp only at hSw1
    go_simp
    try (with_reducible rfl)
  try simp only [Act.put, List.setIfInBounds_toArray, List.set_cons_zero, List.set_cons_succ, List.getElem_toArray, List.getElem_cons_zero, List.getElem_cons_succ]
  refine wpAnyH_take (i := 12) (v := ?_) rfl (by kernel_rfl) (by kernel_rfl) (by kernel_rfl) (fun _ _ _ h => h) (Or.inl ⟨by rfl, ?_⟩) hHeld ?_
  rotate_left
  · intro w hSw
    have hSw1 := hSw
    clear hSw
    try dsimp only at hSw1
    go_simp
    try (with_reducible rfl)
  try simp only [Act.put, List.setIfInBounds_toArray, List.set_cons_zero, List.set_cons_succ, List.getElem_toArray, List.getElem_cons_zero, List.getElem_cons_succ]
  refine wpAnyH_take (i := 13) (v := ?_) rfl (by kernel_rfl) (by kernel_rfl) (by kernel_rfl) (fun _ _ _ h => h) (Or.inl ⟨by rfl, ?_⟩) hHeld ?_
  rotate_left
  · intro w hSw
    have hSw1 := hSw
    clear hSw
    try dsimp only at hSw1
    go_simp
    try (with_reducible rfl)
  try simp only [Act.put, List.setIfInBounds_toArray, List.set_cons_zero, List.set_cons_succ, List.getElem_toArray, List.getElem_cons_zero, List.getElem_cons_succ]
  refine wpAnyH_take (i := 14) (v := ?_) rfl (by kernel_rfl) (by kernel_rfl) (by kernel_rfl) (fun _ _ _ h => h) (Or.inl ⟨by rfl, ?_⟩) hHeld ?_
  rotate_left
  · intro w hSw
    have hSw1 := hSw
    clear hSw
    try dsimp only at hSw1
    go_simp
    try (with_reducible rfl)
  try simp only [Act.put, List.setIfInBounds_toArray, List.set_cons_zero, List.set_cons_succ, List.getElem_toArray, List.getElem_cons_zero, List.getElem_cons_succ]
  refine wpAnyH_take (i := 15) (v := ?_) rfl (by kernel_rfl) (by kernel_rfl) (by kernel_rfl) (fun _ _ _ h => h) (Or.inl ⟨by rfl, ?_⟩) hHeld ?_
  rotate_left
  · intro w hSw
    have hSw1 := hSw
    clear hSw
    try dsimp only at hSw1
    go_simp
    try (with_reducible rfl)
  try simp only [Act.put, List.setIfInBounds_toArray, List.set_cons_zero, List.set_cons_succ, List.getElem_toArray, List.getElem_cons_zero, List.getElem_cons_succ]
  refine wpAnyH_take (i := 16) (v := ?_) rfl (by kernel_rfl) (by kernel_rfl) (by kernel_rfl) (fun _ _ _ h => h) (Or.inl ⟨by rfl, ?_⟩) hHeld ?_
  rotate_left
  · intro w hSw
    have hSw1 := hSw
    clear hSw
    try dsimp only at hSw1
    go_simp
    try (with_reducible rfl)
  try simp only [Act.put, List.setIfInBounds_toArray, List.set_cons_zero, List.set_cons_succ, List.getElem_toArray, List.getElem_cons_zero, List.getElem_cons_succ]
  refine wpAnyH_take (i := 17) (v := ?_) rfl (by kernel_rfl) (by kernel_rfl) (by kernel_rfl) (fun _ _ _ h => h) (Or.inl ⟨by rfl, ?_⟩) hHeld ?_
  rotate_left
  · intro w hSw
    have hSw1 := hSw
    clear hSw
    try dsimp only at hSw1
    go_simp
    try (with_reducible rfl)
  try simp only [Act.put, List.setIfInBounds_toArray, List.set_cons_zero, List.set_cons_succ, List.getElem_toArray, List.getElem_cons_zero, List.getElem_cons_succ]
  refine wpAnyH_take (i := 18) (v := ?_) rfl (by kernel_rfl) (by kernel_rfl) (by kernel_rfl) (fun _ _ _ h => h) (Or.inl ⟨by rfl, ?_⟩) hHeld ?_
  rotate_left
  · intro w hSw
    have hSw1 := hSw
    clear hSw
    try dsimp only at hSw1
    go_simp
    try (with_reducible rfl)
  try simp only [Act.put, List.setIfInBounds_toArray, List.set_cons_zero, List.set_cons_succ, List.getElem_toArray, List.getElem_cons_zero, List.getElem_cons_succ]
  refine wpAnyH_take (i := 19) (v := ?_) rfl (by kernel_rfl) (by kernel_rfl) (by kernel_rfl) (fun _ _ _ h => h) (Or.inl ⟨by rfl, ?_⟩) hHeld ?_
  rotate_left
  · intro w hSw
    have hSw1 := hSw
    clear hSw
    try dsimp only at hSw1
    go_simp
    try (with_reducible rfl)
  try simp only [Act.put, List.setIfInBounds_toArray, List.set_cons_zero, List.set_cons_succ, List.getElem_toArray, List.getElem_cons_zero, List.getElem_cons_succ]
  refine wpAnyH_take (i := 20) (v := ?_) rfl (by kernel_rfl) (by kernel_rfl) (by kernel_rfl) (fun _ _ _ h => h) (Or.inl ⟨by rfl, ?_⟩) hHeld ?_
  rotate_left
  · intro w hSw
    have hSw1 := hSw
    clear hSw
    try dsimp only at hSw1
    go_simp
    try (with_reducible rfl)
  try simp only [Act.put, List.setIfInBounds_toArray, List.set_cons_zero, List.set_cons_succ, List.getElem_toArray, List.getElem_cons_zero, List.getElem_cons_succ]
  refine wpAnyH_take (i := 21) (v := ?_) rfl (by kernel_rfl) (by kernel_rfl) (by kernel_rfl) (fun _ _ _ h => h) (Or.inl ⟨by rfl, ?_⟩) hHeld ?_
  rotate_left
  · intro w hSw
    have hSw1 := hSw
    clear hSw
    try dsimp only at hSw1
    go_simp
    try (with_reducible rfl)
  try simp only [Act.put, List.setIfInBounds_toArray, List.set_cons_zero, List.set_cons_succ, List.getElem_toArray, List.getElem_cons_zero, List.getElem_cons_succ]
  refine wpAnyH_take (i := 23) (v := ?_) rfl (by kernel_rfl) (by kernel_rfl) (by kernel_rfl) (fun _ _ _ h => h) (Or.inl ⟨by rfl, ?_⟩) hHeld ?_
  rotate_left
  · intro w hSw
    have hSw1 := hSw
    clear hSw
    try dsimp only at hSw1
    go_simp
    try (with_reducible rfl)
  try simp only [Act.put, List.setIfInBounds_toArray, List.set_cons_zero, List.set_cons_succ, List.getElem_toArray, List.getElem_cons_zero, List.getElem_cons_succ]
  refine wpAnyH_take (i := 24) (v := ?_) rfl (by kernel_rfl) (by kernel_rfl) (by kernel_rfl) (fun _ _ _ h => h) (Or.inl ⟨by rfl, ?_⟩) hHeld ?_
  rotate_left
  · intro w hSw
    have hSw1 := hSw
    clear hSw
    have hb0 := hSw1.out.cell 0
    have hb1 := hSw1.out.cell 1
    have hb2 := hSw1.out.cell 2
    have hb3 := hSw1.out.lt
    simp only [List.getElem?_toArray, List.getElem?_cons_zero, List.getElem?_cons_succ] at hb0 hb1 hb2
    go_simp
    try (with_reducible rfl)
  try simp only [Act.put, List.setIfInBounds_toArray, List.set_cons_zero, List.set_cons_succ, List.getElem_toArray, List.getElem_cons_zero, List.getElem_cons_succ]
  refine wpAnyH_ready (rs := [22]) (by kernel_rfl) (by simp) ?_
  refine AllReadyH.cons rfl (fun K hK => ?_) AllReadyH.nil
  go_simp
  refine (lines_any p S c w3.drew (H3.out.1.step ((Step.refl [] w3).drew) (by simp)) HC.out).mono ?_; rintro e w4 ⟨a4, c4, rfl, g4, k4⟩; have k4b : Step [] [] w3.drew w4 := k4.drop (by simp); have H4 : Hid (Row w4 8 a4 c.ls.length c4 (lncs c.ls) ∧ Row w4 8 a c.ls.length cap (lncs c.ls) ∧ Step [] [] w w4 ∧ Blk w4 b 29 #[.int .i64 c.base.count, Str c.base.hash, .slice a c.ls.length cap]) := ⟨g4, H3.out.2.1.drew.step k4b (by simp), H3.out.2.2.1.drew.trans k4b, H3.out.2.2.2.drew.step k4b (by simp)⟩; clear k4 k4b g4
  go_wp2_with fail
  refine hK.out _ _ (Lib.hid H4.out.2.2.2) (fun hHeld2 => ?_)
  clear hK K hHeld
  try simp only [Act.put, List.setIfInBounds_toArray, List.set_cons_zero, List.set_cons_succ, List.getElem_toArray, List.getElem_cons_zero, List.getElem_cons_succ]
  refine wpAnyH_ready (rs := [25]) (by kernel_rfl) (by simp) ?_
  refine AllReadyH.cons rfl (fun K hK => ?_) AllReadyH.nil
  go_simp
  refine (refSame_any c.ls c.ls a4 a c4 cap w4 H4.out.1.rd H4.out.2.1.rd HC.out.len HC.out.len).mono ?_; rintro e w5 ⟨rfl, k5⟩; rw [decide_eq_true (rfl : c.ls = c.ls)]; have H5 : Hid (Step [] [] w w5 ∧ Blk w5 b 29 #[.int .i64 c.base.count, Str c.base.hash, .slice a c.ls.length cap]) := ⟨H4.out.2.2.1.trans k5, H4.out.2.2.2.step k5 (by simp)⟩; clear k5
  go_wp2_with fail
  refine hK.out _ _ (Lib.hid H5.out.2) (fun hHeld3 => ?_)
  clear hK K hHeld2
  try simp only [Act.put, List.setIfInBounds_toArray, List.set_cons_zero, List.set_cons_succ, List.getElem_toArray, List.getElem_cons_zero, List.getElem_cons_succ]
  refine wpAnyH_take (i := 26) (v := ?_) rfl (by kernel_rfl) (by kernel_rfl) (by kernel_rfl) (fun _ _ _ h => h) (Or.inl ⟨by rfl, ?_⟩) hHeld3 ?_
  rotate_left
  · intro w hSw
    have hSw1 := hSw
    clear hSw
    try dsimp only at hSw1
    go_simp
    try (with_reducible rfl)
  try simp only [Act.put, List.setIfInBounds_toArray, List.set_cons_zero, List.set_cons_succ, List.getElem_toArray, List.getElem_cons_zero, List.getElem_cons_succ]
  refine wpAnyH_take (i := 27) (v := ?_) rfl (by kernel_rfl) (by kernel_rfl) (by kernel_rfl) (fun _ _ _ h => h) (Or.inl ⟨by rfl, ?_⟩) hHeld3 ?_
  rotate_left
  · intro w hSw
    have hSw1 := hSw
    clear hSw
    try dsimp only at hSw1
    go_simp
    try (with_reducible rfl)
  try simp only [Act.put, List.setIfInBounds_toArray, List.set_cons_zero, List.set_cons_succ, List.getElem_toArray, List.getElem_cons_zero, List.getElem_cons_succ]
  refine wpAnyH_done (by kernel_rfl) ?_ _
  go_wp2_with fail
  exact bodyPost_ret (results_tmp rfl _ _ _) rfl ⟨rfl, H5.out.1⟩
end Go.Proofs.Ytdiacfbflbenoaa
