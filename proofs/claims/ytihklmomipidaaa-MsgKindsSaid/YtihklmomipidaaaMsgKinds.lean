/-
  MsgKinds: a message is an App just if its kind says so, and asked for as a Shot it panics just if it is none. No condition beyond the row's.
-/
import Derived.Test.YtihklmomipidaaaMsgP
import Derived.Test.YtihklmomipidaaaRows
namespace Go.Proofs.Ytihklmomipidaaa
open Go.RowKit Go.Lib Go.ChangeShapes Go.WideShapes Go.ChangeAt
set_option linter.unusedSimpArgs false
set_option linter.unusedVariables false
set_option maxRecDepth 100000

set_option maxHeartbeats 8000000 in
theorem kinds10_none (x : Rw) (a : Option Addr) (cap : Nat) (w : World) (hik : isKind x.kind = false) (hr : Rd w 3 a x.es.length (entcs x.es)) (hl : x.es.length ≤ 4398046511104) (hd : x.data.length ≤ 140737488351232) :
    Calls Try.prog 7 #[rwV x (.slice a x.es.length cap)] w fun e w' => e = .returned (.bool true) ∧ Step [] [] w w' := by
  have k3 : (x.kind == 3) = false := by simp [isKind] at hik ⊢; omega
  have k5 : (x.kind == 5) = false := by simp [isKind] at hik ⊢; omega
  have HK := Lib.hid hik
  clear hik
  have H0 : Hid (Rd (w.alloc (.cells (rwc x (.slice a x.es.length cap)).toArray 24)) 3 a x.es.length (entcs x.es) ∧ Step [] [] w (w.alloc (.cells (rwc x (.slice a x.es.length cap)).toArray 24)) ∧ Blk (w.alloc (.cells (rwc x (.slice a x.es.length cap)).toArray 24)) w.heap.size 24 (rwc x (.slice a x.es.length cap)).toArray) := ⟨hr.alloc _, (Step.refl [] w).alloc _, Blk.new w _ _⟩
  have HL0 := Lib.hid (And.intro hl (And.intro (clean_len x) hd))
  clear hr hl hd
  go_enter Try.func7, Try.ntmps7
  go_wp2_with fail
  refine (awake10_true _).mono ?_
  rintro e w1 ⟨rfl, k1⟩
  obtain ⟨b, hb⟩ : ∃ b, b = w.heap.size := ⟨_, rfl⟩
  have H1 : Hid (Rd w1 3 a x.es.length (entcs x.es) ∧ Step [] [] w w1 ∧ Blk w1 b 24 (rwc x (.slice a x.es.length cap)).toArray) := by
    rw [hb]
    exact ⟨H0.out.1.step0 k1, H0.out.2.1.trans k1, H0.out.2.2.step k1 (by simp)⟩
  rw [← hb]
  clear k1 hb H0
  have ra := H1.out.2.2.rw
  have rl := H1.out.2.2.lt
  obtain ⟨y, hy⟩ : ∃ y, y = cleanL x := ⟨_, rfl⟩
  have HCL : Hid (True ∧ (y.es.length ≤ 4398046511104 ∧ True) ∧ y = cleanL x) := ⟨trivial, ⟨by rw [hy]; exact Nat.le_trans HL0.out.2.1 HL0.out.1, trivial⟩, hy⟩
  clear hy
  go_wp2_with fail
  refine (of_none x a cap w1 HK.out).mono ?_
  rintro e w2 ⟨rfl, k2⟩
  have H2 : Hid (Rd w2 3 a x.es.length (entcs x.es) ∧ Step [] [] w w2 ∧ Blk w2 b 24 (rwc x (.slice a x.es.length cap)).toArray) := ⟨H1.out.1.step0 k2, H1.out.2.1.trans k2, H1.out.2.2.step k2 (by simp)⟩
  clear ra rl k2 H1
  have ra := H2.out.2.2.rw
  have rl := H2.out.2.2.lt
  go_wp2_with fail
  refine (isApp_no .nilIface w2 ta03).mono ?_
  rintro e w3 ⟨rfl, k3⟩
  unfold appZ
  have H3 : Hid (Rd w3 3 a x.es.length (entcs x.es) ∧ Step [] [] w w3 ∧ Blk w3 b 24 (rwc x (.slice a x.es.length cap)).toArray ∧ Step [] [] w2 w3) := ⟨H2.out.1.step0 k3, H2.out.2.1.trans k3, H2.out.2.2.step k3 (by simp), k3⟩
  clear k3 ra rl
  go_wp2_with fail
  obtain ⟨b5, hb5⟩ : ∃ b, b = w3.heap.size := ⟨_, rfl⟩
  obtain ⟨V3, hV3⟩ : ∃ V, V = w3.alloc (.cells #[.int .i64 0, .int .i64 0, .int .i64 0, .int .i64 0, .int .i64 0, .int .i64 0, .slice none 0 0] 47) := ⟨_, rfl⟩
  have H4 : Hid (Rd V3 3 a x.es.length (entcs x.es) ∧ Step [] [] w V3 ∧ Blk V3 b 24 (rwc x (.slice a x.es.length cap)).toArray ∧ Step [] [] w2 V3 ∧ Blk V3 b5 47 #[.int .i64 0, .int .i64 0, .int .i64 0, .int .i64 0, .int .i64 0, .int .i64 0, .slice none 0 0]) := by
    rw [hV3, hb5]
    exact ⟨H3.out.1.alloc _, H3.out.2.1.alloc _, H3.out.2.2.1.alloc _, H3.out.2.2.2.alloc _, Blk.new _ _ _⟩
  rw [← hV3, ← hb5]
  clear hV3 hb5 H3
  refine (must_no .nilIface V3 (fun W => mustShot_no _ W _ (fun X _ => tp0 X))).mono ?_
  rintro e w4 ⟨rfl, k4⟩
  unfold shotZ
  have H5 : Hid (Rd w4 3 a x.es.length (entcs x.es) ∧ Step [] [] w w4 ∧ Blk w4 b 24 (rwc x (.slice a x.es.length cap)).toArray ∧ Step [] [] w2 w4 ∧ Blk w4 b5 47 #[.int .i64 0, .int .i64 0, .int .i64 0, .int .i64 0, .int .i64 0, .int .i64 0, .slice none 0 0]) := ⟨H4.out.1.step0 k4, H4.out.2.1.trans k4, H4.out.2.2.1.step k4 (by simp), H4.out.2.2.2.1.trans k4, H4.out.2.2.2.2.step k4 (by simp)⟩
  clear k4 H4
  obtain ⟨b7, hb7⟩ : ∃ b, b = w4.heap.size := ⟨_, rfl⟩
  obtain ⟨V4, hV4⟩ : ∃ V, V = w4.alloc (.cells #[.int .i64 0, .int .i64 0, .int .i64 0, .int .i64 0, .int .i64 0, .string ⟨#[]⟩] 51) := ⟨_, rfl⟩
  have H6 : Hid (Rd V4 3 a x.es.length (entcs x.es) ∧ Step [] [] w V4 ∧ Blk V4 b 24 (rwc x (.slice a x.es.length cap)).toArray ∧ Step [] [] w2 V4 ∧ Blk V4 b5 47 #[.int .i64 0, .int .i64 0, .int .i64 0, .int .i64 0, .int .i64 0, .int .i64 0, .slice none 0 0] ∧ Blk V4 b7 51 #[.int .i64 0, .int .i64 0, .int .i64 0, .int .i64 0, .int .i64 0, .string ⟨#[]⟩]) := by
    rw [hV4, hb7]
    exact ⟨H5.out.1.alloc _, H5.out.2.1.alloc _, H5.out.2.2.1.alloc _, H5.out.2.2.2.1.alloc _, H5.out.2.2.2.2.alloc _, Blk.new _ _ _⟩
  go_upto_region 6 with fail
  rw [← hV4, ← hb7]
  clear hV4 hb7 H5
  have ra := H6.out.2.2.1.rw
  have rl := H6.out.2.2.1.lt
  go_wp2_with fail
  refine (refClean_any x a cap V4 H6.out.1 HL0.out.1).mono ?_
  rintro e w5 ⟨a3, cap3, rfl, r3, k5⟩
  rw [HK.out]
  rw [← HCL.out.2.2] at r3 ⊢
  clear ra rl
  obtain ⟨b9, hb9⟩ : ∃ b, b = w5.heap.size := ⟨_, rfl⟩
  obtain ⟨Q, hQ⟩ : ∃ V, V = w5.alloc (.cells (rwc y (.slice a3 y.es.length cap3)).toArray 24) := ⟨_, rfl⟩
  have HQ : Hid (Rd Q 3 a3 y.es.length (entcs y.es) ∧ Step [] [] w Q ∧ Blk Q b 24 (rwc x (.slice a x.es.length cap)).toArray ∧ Step [] [] w2 Q ∧ Blk Q b5 47 #[.int .i64 0, .int .i64 0, .int .i64 0, .int .i64 0, .int .i64 0, .int .i64 0, .slice none 0 0] ∧ Blk Q b7 51 #[.int .i64 0, .int .i64 0, .int .i64 0, .int .i64 0, .int .i64 0, .string ⟨#[]⟩] ∧ Blk Q b9 24 (rwc y (.slice a3 y.es.length cap3)).toArray) := by
    rw [hQ, hb9]
    exact ⟨r3.alloc _, (H6.out.2.1.trans k5).alloc _, (H6.out.2.2.1.step k5 (by simp)).alloc _, (H6.out.2.2.2.1.trans k5).alloc _, (H6.out.2.2.2.2.1.step k5 (by simp)).alloc _, (H6.out.2.2.2.2.2.step k5 (by simp)).alloc _, Blk.new _ _ _⟩
  clear r3 k5 H6
  go_upto_region 7 with fail
  rw [show w5.alloc (.cells #[.int .i64 y.kind, .int .i64 y.src, .int .i64 y.term, .int .i64 y.index, .int .i64 y.last, .int .i64 y.commit, .int .i64 y.round, .bool y.yes, .slice a3 y.es.length cap3, .string ⟨y.data.toArray⟩] 24) = Q from hQ.symm, ← hb9]
  clear hQ hb9
  have ra := HQ.out.2.2.1.rw
  have rl := HQ.out.2.2.1.lt
  go_upto_region 9 with fail
  clear ra rl
  refine wp_region_held_drew (S := fun W => Hid (Step [] [] Q W)) (by kernel_rfl) (Lib.hid ((Step.refl [] Q).drew)) (fun hHeld => ?_)
  refine wpAnyH_take (i := 0) (v := ?_) rfl (by kernel_rfl) (by kernel_rfl) (by kernel_rfl) (fun _ _ _ h => h) (Or.inl ⟨by rfl, ?_⟩) hHeld ?_
  rotate_left
  · intro w hSw
    have hSw1 := hSw
    clear hSw
    try dsimp only at hSw1
    go_simp
    try (with_reducible rfl)
  try simp only [Act.put, List.setIfInBounds_toArray, List.set_cons_zero, List.set_cons_succ, List.getElem_toArray, List.getElem_cons_zero, List.getElem_cons_succ]
  refine wpAnyH_take (i := 1) (v := ?_) rfl (by kernel_rfl) (by kernel_rfl) (by kernel_rfl) (fun _ _ _ h => h) (Or.inl ⟨by rfl, ?_⟩) hHeld ?_
  rotate_left
  · intro w hSw
    have hSw1 := hSw
    clear hSw
    try dsimp only at hSw1
    go_simp
    try (with_reducible rfl)
  try simp only [Act.put, List.setIfInBounds_toArray, List.set_cons_zero, List.set_cons_succ, List.getElem_toArray, List.getElem_cons_zero, List.getElem_cons_succ]
  refine wpAnyH_take (i := 2) (v := undef) rfl (by kernel_rfl) (by kernel_rfl) (by kernel_rfl) (fun _ _ _ h => h) (Or.inr ⟨by kernel_rfl, rfl⟩) hHeld ?_
  try simp only [Act.put, List.setIfInBounds_toArray, List.set_cons_zero, List.set_cons_succ, List.getElem_toArray, List.getElem_cons_zero, List.getElem_cons_succ]
  refine wpAnyH_take (i := 3) (v := undef) rfl (by kernel_rfl) (by kernel_rfl) (by kernel_rfl) (fun _ _ _ h => h) (Or.inr ⟨by kernel_rfl, rfl⟩) hHeld ?_
  try simp only [Act.put, List.setIfInBounds_toArray, List.set_cons_zero, List.set_cons_succ, List.getElem_toArray, List.getElem_cons_zero, List.getElem_cons_succ]
  refine wpAnyH_take (i := 4) (v := undef) rfl (by kernel_rfl) (by kernel_rfl) (by kernel_rfl) (fun _ _ _ h => h) (Or.inr ⟨by kernel_rfl, rfl⟩) hHeld ?_
  try simp only [Act.put, List.setIfInBounds_toArray, List.set_cons_zero, List.set_cons_succ, List.getElem_toArray, List.getElem_cons_zero, List.getElem_cons_succ]
  refine wpAnyH_take (i := 5) (v := undef) rfl (by kernel_rfl) (by kernel_rfl) (by kernel_rfl) (fun _ _ _ h => h) (Or.inr ⟨by kernel_rfl, rfl⟩) hHeld ?_
  try simp only [Act.put, List.setIfInBounds_toArray, List.set_cons_zero, List.set_cons_succ, List.getElem_toArray, List.getElem_cons_zero, List.getElem_cons_succ]
  refine wpAnyH_take (i := 6) (v := undef) rfl (by kernel_rfl) (by kernel_rfl) (by kernel_rfl) (fun _ _ _ h => h) (Or.inr ⟨by kernel_rfl, rfl⟩) hHeld ?_
  try simp only [Act.put, List.setIfInBounds_toArray, List.set_cons_zero, List.set_cons_succ, List.getElem_toArray, List.getElem_cons_zero, List.getElem_cons_succ]
  refine wpAnyH_take (i := 7) (v := ?_) rfl (by kernel_rfl) (by kernel_rfl) (by kernel_rfl) (fun _ _ _ h => h) (Or.inl ⟨by rfl, ?_⟩) hHeld ?_
  rotate_left
  · intro w hSw
    have hSw1 := hSw
    clear hSw
    try dsimp only at hSw1
    go_simp
    try (with_reducible rfl)
  try simp only [Act.put, List.setIfInBounds_toArray, List.set_cons_zero, List.set_cons_succ, List.getElem_toArray, List.getElem_cons_zero, List.getElem_cons_succ]
  refine wpAnyH_take (i := 8) (v := ?_) rfl (by kernel_rfl) (by kernel_rfl) (by kernel_rfl) (fun _ _ _ h => h) (Or.inl ⟨by rfl, ?_⟩) hHeld ?_
  rotate_left
  · intro w hSw
    have hSw1 := hSw
    clear hSw
    try dsimp only at hSw1
    go_simp
    try (with_reducible rfl)
  try simp only [Act.put, List.setIfInBounds_toArray, List.set_cons_zero, List.set_cons_succ, List.getElem_toArray, List.getElem_cons_zero, List.getElem_cons_succ]
  refine wpAnyH_take (i := 9) (v := ?_) rfl (by kernel_rfl) (by kernel_rfl) (by kernel_rfl) (fun _ _ _ h => h) (Or.inl ⟨by rfl, ?_⟩) hHeld ?_
  rotate_left
  · intro w hSw
    have hSw1 := hSw
    clear hSw
    try dsimp only at hSw1
    go_simp
    try (with_reducible rfl)
  try simp only [Act.put, List.setIfInBounds_toArray, List.set_cons_zero, List.set_cons_succ, List.getElem_toArray, List.getElem_cons_zero, List.getElem_cons_succ]
  refine wpAnyH_take (i := 10) (v := ?_) rfl (by kernel_rfl) (by kernel_rfl) (by kernel_rfl) (fun _ _ _ h => h) (Or.inl ⟨by rfl, ?_⟩) hHeld ?_
  rotate_left
  · intro w hSw
    have hSw1 := hSw
    clear hSw
    try dsimp only at hSw1
    go_simp
    try (with_reducible rfl)
  try simp only [Act.put, List.setIfInBounds_toArray, List.set_cons_zero, List.set_cons_succ, List.getElem_toArray, List.getElem_cons_zero, List.getElem_cons_succ]
  refine wpAnyH_take (i := 11) (v := ?_) rfl (by kernel_rfl) (by kernel_rfl) (by kernel_rfl) (fun _ _ _ h => h) (Or.inl ⟨by rfl, ?_⟩) hHeld ?_
  rotate_left
  · intro w hSw
    have hSw1 := hSw
    clear hSw
    try dsimp only at hSw1
    go_simp
    try (with_reducible rfl)
  try simp only [Act.put, List.setIfInBounds_toArray, List.set_cons_zero, List.set_cons_succ, List.getElem_toArray, List.getElem_cons_zero, List.getElem_cons_succ]
  refine wpAnyH_take (i := 12) (v := ?_) rfl (by kernel_rfl) (by kernel_rfl) (by kernel_rfl) (fun _ _ _ h => h) (Or.inl ⟨by rfl, ?_⟩) hHeld ?_
  rotate_left
  · intro w hSw
    have hSw1 := hSw
    clear hSw
    try dsimp only at hSw1
    go_simp
    try (with_reducible rfl)
  try simp only [Act.put, List.setIfInBounds_toArray, List.set_cons_zero, List.set_cons_succ, List.getElem_toArray, List.getElem_cons_zero, List.getElem_cons_succ]
  refine wpAnyH_take (i := 13) (v := ?_) rfl (by kernel_rfl) (by kernel_rfl) (by kernel_rfl) (fun _ _ _ h => h) (Or.inl ⟨by rfl, ?_⟩) hHeld ?_
  rotate_left
  · intro w hSw
    have hSw1 := hSw
    clear hSw
    have q0 := (HQ.out.2.2.2.2.1.step hSw1.out (by simp)).cell 0
    have q1 := (HQ.out.2.2.2.2.1.step hSw1.out (by simp)).cell 1
    have q2 := (HQ.out.2.2.2.2.1.step hSw1.out (by simp)).cell 2
    have q3 := (HQ.out.2.2.2.2.1.step hSw1.out (by simp)).cell 3
    have q4 := (HQ.out.2.2.2.2.1.step hSw1.out (by simp)).cell 4
    have q5 := (HQ.out.2.2.2.2.1.step hSw1.out (by simp)).cell 5
    have q6 := (HQ.out.2.2.2.2.1.step hSw1.out (by simp)).cell 6
    have ql := (HQ.out.2.2.2.2.1.step hSw1.out (by simp)).lt
    simp only [List.getElem?_toArray, List.getElem?_cons_zero, List.getElem?_cons_succ] at q0 q1 q2 q3 q4 q5 q6
    go_simp
    try (with_reducible rfl)
  try simp only [Act.put, List.setIfInBounds_toArray, List.set_cons_zero, List.set_cons_succ, List.getElem_toArray, List.getElem_cons_zero, List.getElem_cons_succ]
  refine wpAnyH_take (i := 14) (v := ?_) rfl (by kernel_rfl) (by kernel_rfl) (by kernel_rfl) (fun _ _ _ h => h) (Or.inl ⟨by rfl, ?_⟩) hHeld ?_
  rotate_left
  · intro w hSw
    have hSw1 := hSw
    clear hSw
    try dsimp only at hSw1
    go_simp
    try (with_reducible rfl)
  try simp only [Act.put, List.setIfInBounds_toArray, List.set_cons_zero, List.set_cons_succ, List.getElem_toArray, List.getElem_cons_zero, List.getElem_cons_succ]
  refine wpAnyH_take (i := 15) (v := ?_) rfl (by kernel_rfl) (by kernel_rfl) (by kernel_rfl) (fun _ _ _ h => h) (Or.inl ⟨by rfl, ?_⟩) hHeld ?_
  rotate_left
  · intro w hSw
    have hSw1 := hSw
    clear hSw
    try dsimp only at hSw1
    go_simp
    try (with_reducible rfl)
  try simp only [Act.put, List.setIfInBounds_toArray, List.set_cons_zero, List.set_cons_succ, List.getElem_toArray, List.getElem_cons_zero, List.getElem_cons_succ]
  refine wpAnyH_take (i := 16) (v := ?_) rfl (by kernel_rfl) (by kernel_rfl) (by kernel_rfl) (fun _ _ _ h => h) (Or.inl ⟨by rfl, ?_⟩) hHeld ?_
  rotate_left
  · intro w hSw
    have hSw1 := hSw
    clear hSw
    try dsimp only at hSw1
    go_simp
    try (with_reducible rfl)
  try simp only [Act.put, List.setIfInBounds_toArray, List.set_cons_zero, List.set_cons_succ, List.getElem_toArray, List.getElem_cons_zero, List.getElem_cons_succ]
  refine wpAnyH_take (i := 17) (v := ?_) rfl (by kernel_rfl) (by kernel_rfl) (by kernel_rfl) (fun _ _ _ h => h) (Or.inl ⟨by rfl, ?_⟩) hHeld ?_
  rotate_left
  · intro w hSw
    have hSw1 := hSw
    clear hSw
    have q0 := (HQ.out.2.2.2.2.1.step hSw1.out (by simp)).cell 0
    have q1 := (HQ.out.2.2.2.2.1.step hSw1.out (by simp)).cell 1
    have q2 := (HQ.out.2.2.2.2.1.step hSw1.out (by simp)).cell 2
    have q3 := (HQ.out.2.2.2.2.1.step hSw1.out (by simp)).cell 3
    have q4 := (HQ.out.2.2.2.2.1.step hSw1.out (by simp)).cell 4
    have q5 := (HQ.out.2.2.2.2.1.step hSw1.out (by simp)).cell 5
    have q6 := (HQ.out.2.2.2.2.1.step hSw1.out (by simp)).cell 6
    have ql := (HQ.out.2.2.2.2.1.step hSw1.out (by simp)).lt
    simp only [List.getElem?_toArray, List.getElem?_cons_zero, List.getElem?_cons_succ] at q0 q1 q2 q3 q4 q5 q6
    go_simp
    try (with_reducible rfl)
  try simp only [Act.put, List.setIfInBounds_toArray, List.set_cons_zero, List.set_cons_succ, List.getElem_toArray, List.getElem_cons_zero, List.getElem_cons_succ]
  refine wpAnyH_take (i := 18) (v := ?_) rfl (by kernel_rfl) (by kernel_rfl) (by kernel_rfl) (fun _ _ _ h => h) (Or.inl ⟨by rfl, ?_⟩) hHeld ?_
  rotate_left
  · intro w hSw
    have hSw1 := hSw
    clear hSw
    try dsimp only at hSw1
    go_simp
    try (with_reducible rfl)
  try simp only [Act.put, List.setIfInBounds_toArray, List.set_cons_zero, List.set_cons_succ, List.getElem_toArray, List.getElem_cons_zero, List.getElem_cons_succ]
  refine wpAnyH_take (i := 19) (v := ?_) rfl (by kernel_rfl) (by kernel_rfl) (by kernel_rfl) (fun _ _ _ h => h) (Or.inl ⟨by rfl, ?_⟩) hHeld ?_
  rotate_left
  · intro w hSw
    have hSw1 := hSw
    clear hSw
    try dsimp only at hSw1
    go_simp
    try (with_reducible rfl)
  try simp only [Act.put, List.setIfInBounds_toArray, List.set_cons_zero, List.set_cons_succ, List.getElem_toArray, List.getElem_cons_zero, List.getElem_cons_succ]
  refine wpAnyH_take (i := 20) (v := ?_) rfl (by kernel_rfl) (by kernel_rfl) (by kernel_rfl) (fun _ _ _ h => h) (Or.inl ⟨by rfl, ?_⟩) hHeld ?_
  rotate_left
  · intro w hSw
    have hSw1 := hSw
    clear hSw
    try dsimp only at hSw1
    go_simp
    try (with_reducible rfl)
  try simp only [Act.put, List.setIfInBounds_toArray, List.set_cons_zero, List.set_cons_succ, List.getElem_toArray, List.getElem_cons_zero, List.getElem_cons_succ]
  refine wpAnyH_take (i := 21) (v := ?_) rfl (by kernel_rfl) (by kernel_rfl) (by kernel_rfl) (fun _ _ _ h => h) (Or.inl ⟨by rfl, ?_⟩) hHeld ?_
  rotate_left
  · intro w hSw
    have hSw1 := hSw
    clear hSw
    try dsimp only at hSw1
    go_simp
    try (with_reducible rfl)
  try simp only [Act.put, List.setIfInBounds_toArray, List.set_cons_zero, List.set_cons_succ, List.getElem_toArray, List.getElem_cons_zero, List.getElem_cons_succ]
  refine wpAnyH_take (i := 22) (v := ?_) rfl (by kernel_rfl) (by kernel_rfl) (by kernel_rfl) (fun _ _ _ h => h) (Or.inl ⟨by rfl, ?_⟩) hHeld ?_
  rotate_left
  · intro w hSw
    have hSw1 := hSw
    clear hSw
    have q0 := (HQ.out.2.2.2.2.1.step hSw1.out (by simp)).cell 0
    have q1 := (HQ.out.2.2.2.2.1.step hSw1.out (by simp)).cell 1
    have q2 := (HQ.out.2.2.2.2.1.step hSw1.out (by simp)).cell 2
    have q3 := (HQ.out.2.2.2.2.1.step hSw1.out (by simp)).cell 3
    have q4 := (HQ.out.2.2.2.2.1.step hSw1.out (by simp)).cell 4
    have q5 := (HQ.out.2.2.2.2.1.step hSw1.out (by simp)).cell 5
    have q6 := (HQ.out.2.2.2.2.1.step hSw1.out (by simp)).cell 6
    have ql := (HQ.out.2.2.2.2.1.step hSw1.out (by simp)).lt
    simp only [List.getElem?_toArray, List.getElem?_cons_zero, List.getElem?_cons_succ] at q0 q1 q2 q3 q4 q5 q6
    go_simp
    try (with_reducible rfl)
  try simp only [Act.put, List.setIfInBounds_toArray, List.set_cons_zero, List.set_cons_succ, List.getElem_toArray, List.getElem_cons_zero, List.getElem_cons_succ]
  refine wpAnyH_take (i := 23) (v := ?_) rfl (by kernel_rfl) (by kernel_rfl) (by kernel_rfl) (fun _ _ _ h => h) (Or.inl ⟨by rfl, ?_⟩) hHeld ?_
  rotate_left
  · intro w hSw
    have hSw1 := hSw
    clear hSw
    try dsimp only at hSw1
    go_simp
    try (with_reducible rfl)
  try simp only [Act.put, List.setIfInBounds_toArray, List.set_cons_zero, List.set_cons_succ, List.getElem_toArray, List.getElem_cons_zero, List.getElem_cons_succ]
  refine wpAnyH_take (i := 24) (v := ?_) rfl (by kernel_rfl) (by kernel_rfl) (by kernel_rfl) (fun _ _ _ h => h) (Or.inl ⟨by rfl, ?_⟩) hHeld ?_
  rotate_left
  · intro w hSw
    have hSw1 := hSw
    clear hSw
    try dsimp only at hSw1
    go_simp
    try (with_reducible rfl)
  try simp only [Act.put, List.setIfInBounds_toArray, List.set_cons_zero, List.set_cons_succ, List.getElem_toArray, List.getElem_cons_zero, List.getElem_cons_succ]
  refine wpAnyH_take (i := 25) (v := ?_) rfl (by kernel_rfl) (by kernel_rfl) (by kernel_rfl) (fun _ _ _ h => h) (Or.inl ⟨by rfl, ?_⟩) hHeld ?_
  rotate_left
  · intro w hSw
    have hSw1 := hSw
    clear hSw
    try dsimp only at hSw1
    go_simp
    try (with_reducible rfl)
  try simp only [Act.put, List.setIfInBounds_toArray, List.set_cons_zero, List.set_cons_succ, List.getElem_toArray, List.getElem_cons_zero, List.getElem_cons_succ]
  refine wpAnyH_take (i := 26) (v := ?_) rfl (by kernel_rfl) (by kernel_rfl) (by kernel_rfl) (fun _ _ _ h => h) (Or.inl ⟨by rfl, ?_⟩) hHeld ?_
  rotate_left
  · intro w hSw
    have hSw1 := hSw
    clear hSw
    try dsimp only at hSw1
    go_simp
    try (with_reducible rfl)
  try simp only [Act.put, List.setIfInBounds_toArray, List.set_cons_zero, List.set_cons_succ, List.getElem_toArray, List.getElem_cons_zero, List.getElem_cons_succ]
  refine wpAnyH_take (i := 27) (v := ?_) rfl (by kernel_rfl) (by kernel_rfl) (by kernel_rfl) (fun _ _ _ h => h) (Or.inl ⟨by rfl, ?_⟩) hHeld ?_
  rotate_left
  · intro w hSw
    have hSw1 := hSw
    clear hSw
    try dsimp only at hSw1
    go_simp
    try (with_reducible rfl)
  try simp only [Act.put, List.setIfInBounds_toArray, List.set_cons_zero, List.set_cons_succ, List.getElem_toArray, List.getElem_cons_zero, List.getElem_cons_succ]
  refine wpAnyH_done (by kernel_rfl) ?_ _
  obtain ⟨Q2, hQ2⟩ : ∃ V, V = Q.drew := ⟨_, rfl⟩
  have HS2 : Hid (Step [] [] Q Q2) := by
    rw [hQ2]
    exact (Step.refl [] Q).drew
  rw [← hQ2]
  clear hQ2
  go_upto_region 11 with fail
  refine wp_region_held_drew (S := fun W => Hid (Step [] [] Q2 W)) (by kernel_rfl) (Lib.hid ((Step.refl [] Q2).drew)) (fun hHeld => ?_)
  refine wpAnyH_take (i := 0) (v := ?_) rfl (by kernel_rfl) (by kernel_rfl) (by kernel_rfl) (fun _ _ _ h => h) (Or.inl ⟨by rfl, ?_⟩) hHeld ?_
  rotate_left
  · intro w hSw
    have hSw1 := hSw
    clear hSw
    try dsimp only at hSw1
    go_simp
    try (with_reducible rfl)
  try simp only [Act.put, List.setIfInBounds_toArray, List.set_cons_zero, List.set_cons_succ, List.getElem_toArray, List.getElem_cons_zero, List.getElem_cons_succ]
  refine wpAnyH_take (i := 1) (v := ?_) rfl (by kernel_rfl) (by kernel_rfl) (by kernel_rfl) (fun _ _ _ h => h) (Or.inl ⟨by rfl, ?_⟩) hHeld ?_
  rotate_left
  · intro w hSw
    have hSw1 := hSw
    clear hSw
    try dsimp only at hSw1
    go_simp
    try (with_reducible rfl)
  try simp only [Act.put, List.setIfInBounds_toArray, List.set_cons_zero, List.set_cons_succ, List.getElem_toArray, List.getElem_cons_zero, List.getElem_cons_succ]
  refine wpAnyH_take (i := 2) (v := undef) rfl (by kernel_rfl) (by kernel_rfl) (by kernel_rfl) (fun _ _ _ h => h) (Or.inr ⟨by kernel_rfl, rfl⟩) hHeld ?_
  try simp only [Act.put, List.setIfInBounds_toArray, List.set_cons_zero, List.set_cons_succ, List.getElem_toArray, List.getElem_cons_zero, List.getElem_cons_succ]
  refine wpAnyH_take (i := 3) (v := undef) rfl (by kernel_rfl) (by kernel_rfl) (by kernel_rfl) (fun _ _ _ h => h) (Or.inr ⟨by kernel_rfl, rfl⟩) hHeld ?_
  try simp only [Act.put, List.setIfInBounds_toArray, List.set_cons_zero, List.set_cons_succ, List.getElem_toArray, List.getElem_cons_zero, List.getElem_cons_succ]
  refine wpAnyH_take (i := 4) (v := undef) rfl (by kernel_rfl) (by kernel_rfl) (by kernel_rfl) (fun _ _ _ h => h) (Or.inr ⟨by kernel_rfl, rfl⟩) hHeld ?_
  try simp only [Act.put, List.setIfInBounds_toArray, List.set_cons_zero, List.set_cons_succ, List.getElem_toArray, List.getElem_cons_zero, List.getElem_cons_succ]
  refine wpAnyH_take (i := 5) (v := undef) rfl (by kernel_rfl) (by kernel_rfl) (by kernel_rfl) (fun _ _ _ h => h) (Or.inr ⟨by kernel_rfl, rfl⟩) hHeld ?_
  try simp only [Act.put, List.setIfInBounds_toArray, List.set_cons_zero, List.set_cons_succ, List.getElem_toArray, List.getElem_cons_zero, List.getElem_cons_succ]
  refine wpAnyH_take (i := 6) (v := ?_) rfl (by kernel_rfl) (by kernel_rfl) (by kernel_rfl) (fun _ _ _ h => h) (Or.inl ⟨by rfl, ?_⟩) hHeld ?_
  rotate_left
  · intro w hSw
    have hSw1 := hSw
    clear hSw
    try dsimp only at hSw1
    go_simp
    try (with_reducible rfl)
  try simp only [Act.put, List.setIfInBounds_toArray, List.set_cons_zero, List.set_cons_succ, List.getElem_toArray, List.getElem_cons_zero, List.getElem_cons_succ]
  refine wpAnyH_take (i := 7) (v := ?_) rfl (by kernel_rfl) (by kernel_rfl) (by kernel_rfl) (fun _ _ _ h => h) (Or.inl ⟨by rfl, ?_⟩) hHeld ?_
  rotate_left
  · intro w hSw
    have hSw1 := hSw
    clear hSw
    try dsimp only at hSw1
    go_simp
    try (with_reducible rfl)
  try simp only [Act.put, List.setIfInBounds_toArray, List.set_cons_zero, List.set_cons_succ, List.getElem_toArray, List.getElem_cons_zero, List.getElem_cons_succ]
  refine wpAnyH_done (by kernel_rfl) ?_ _
  go_wp2_with fail
  exact bodyPost_ret (results_tmp rfl _ _ _) rfl ⟨rfl, (HQ.out.2.1.trans HS2.out).drew⟩

set_option maxHeartbeats 8000000 in
theorem kinds10_1 (x : Rw) (a : Option Addr) (cap : Nat) (w : World) (hik : x.kind = 1) (hr : Rd w 3 a x.es.length (entcs x.es)) (hl : x.es.length ≤ 4398046511104) (hd : x.data.length ≤ 140737488351232) :
    Calls Try.prog 7 #[rwV x (.slice a x.es.length cap)] w fun e w' => e = .returned (.bool true) ∧ Step [] [] w w' := by
  have k3 : (x.kind == 3) = false := by rw [hik]; rfl
  have k5 : (x.kind == 5) = false := by rw [hik]; rfl
  have HKX := Lib.hid hik
  have HK : Hid (isKind x.kind = true) := Lib.hid (by rw [hik]; rfl)
  clear hik
  have H0 : Hid (Rd (w.alloc (.cells (rwc x (.slice a x.es.length cap)).toArray 24)) 3 a x.es.length (entcs x.es) ∧ Step [] [] w (w.alloc (.cells (rwc x (.slice a x.es.length cap)).toArray 24)) ∧ Blk (w.alloc (.cells (rwc x (.slice a x.es.length cap)).toArray 24)) w.heap.size 24 (rwc x (.slice a x.es.length cap)).toArray) := ⟨hr.alloc _, (Step.refl [] w).alloc _, Blk.new w _ _⟩
  have HL0 := Lib.hid (And.intro hl (And.intro (clean_len x) hd))
  clear hr hl hd
  go_enter Try.func7, Try.ntmps7
  go_wp2_with fail
  refine (awake10_true _).mono ?_
  rintro e w1 ⟨rfl, k1⟩
  obtain ⟨b, hb⟩ : ∃ b, b = w.heap.size := ⟨_, rfl⟩
  have H1 : Hid (Rd w1 3 a x.es.length (entcs x.es) ∧ Step [] [] w w1 ∧ Blk w1 b 24 (rwc x (.slice a x.es.length cap)).toArray) := by
    rw [hb]
    exact ⟨H0.out.1.step0 k1, H0.out.2.1.trans k1, H0.out.2.2.step k1 (by simp)⟩
  rw [← hb]
  clear k1 hb H0
  have ra := H1.out.2.2.rw
  have rl := H1.out.2.2.lt
  go_wp2_with fail
  refine (of_any x a cap w1 HK.out H1.out.1 HL0.out.1).mono ?_
  rintro e w2 ⟨m, rfl, hm, k2⟩
  obtain ⟨y, hy⟩ : ∃ y, y = cleanL x := ⟨_, rfl⟩
  have HCL : Hid ((cleanL y = y ∧ isKind y.kind = true) ∧ (y.es.length ≤ 4398046511104 ∧ True) ∧ y = cleanL x) := by
    rw [hy]
    exact ⟨⟨(clean_clean x HK.out).1, by rw [(clean_clean x HK.out).2]; exact HK.out⟩, ⟨Nat.le_trans HL0.out.2.1 HL0.out.1, trivial⟩, rfl⟩
  have hyk : y.kind = 1 := by rw [hy, (clean_clean x HK.out).2]; exact HKX.out
  rw [← hy] at hm
  clear hy
  have hno := hm.noes
  obtain ⟨ay, capy, hry, h5⟩ := hm.open_
  have H2 : Hid (Rd w2 3 a x.es.length (entcs x.es) ∧ Step [] [] w w2 ∧ Blk w2 b 24 (rwc x (.slice a x.es.length cap)).toArray) := ⟨H1.out.1.step0 k2, H1.out.2.1.trans k2, H1.out.2.2.step k2 (by simp)⟩
  have HY : Hid (y.kind = 1 ∧ y.es = []) := Lib.hid ⟨hyk, hno (by omega)⟩
  have hm' : m = .iface 57 (.agg #[.int .i64 y.src, .int .i64 y.term, .int .i64 y.index, .int .i64 y.last]) := by
    rcases h5 with ⟨h, e⟩ | ⟨h, e⟩ | ⟨h, e⟩ | ⟨h, e⟩ | ⟨h, e⟩ <;> first | exact e | (exfalso; omega)
  subst hm'
  clear ra rl k2 H1 hm hno hry h5 hyk
  have ra := H2.out.2.2.rw
  have rl := H2.out.2.2.lt
  go_wp2_with fail
  refine (isApp_no _ w2 (ta13 _)).mono ?_
  rintro e w3 ⟨rfl, k3⟩
  unfold appZ
  have H3 : Hid (Rd w3 3 a x.es.length (entcs x.es) ∧ Step [] [] w w3 ∧ Blk w3 b 24 (rwc x (.slice a x.es.length cap)).toArray ∧ Step [] [] w2 w3) := ⟨H2.out.1.step0 k3, H2.out.2.1.trans k3, H2.out.2.2.step k3 (by simp), k3⟩
  clear k3 ra rl
  go_wp2_with fail
  obtain ⟨b5, hb5⟩ : ∃ b, b = w3.heap.size := ⟨_, rfl⟩
  obtain ⟨V3, hV3⟩ : ∃ V, V = w3.alloc (.cells #[.int .i64 0, .int .i64 0, .int .i64 0, .int .i64 0, .int .i64 0, .int .i64 0, .slice none 0 0] 47) := ⟨_, rfl⟩
  have H4 : Hid (Rd V3 3 a x.es.length (entcs x.es) ∧ Step [] [] w V3 ∧ Blk V3 b 24 (rwc x (.slice a x.es.length cap)).toArray ∧ Step [] [] w2 V3 ∧ Blk V3 b5 47 #[.int .i64 0, .int .i64 0, .int .i64 0, .int .i64 0, .int .i64 0, .int .i64 0, .slice none 0 0]) := by
    rw [hV3, hb5]
    exact ⟨H3.out.1.alloc _, H3.out.2.1.alloc _, H3.out.2.2.1.alloc _, H3.out.2.2.2.alloc _, Blk.new _ _ _⟩
  rw [← hV3, ← hb5]
  clear hV3 hb5 H3
  refine (must_no _ V3 (fun W => mustShot_no _ W _ (fun X _ => tp1 _ X))).mono ?_
  rintro e w4 ⟨rfl, k4⟩
  unfold shotZ
  have H5 : Hid (Rd w4 3 a x.es.length (entcs x.es) ∧ Step [] [] w w4 ∧ Blk w4 b 24 (rwc x (.slice a x.es.length cap)).toArray ∧ Step [] [] w2 w4 ∧ Blk w4 b5 47 #[.int .i64 0, .int .i64 0, .int .i64 0, .int .i64 0, .int .i64 0, .int .i64 0, .slice none 0 0]) := ⟨H4.out.1.step0 k4, H4.out.2.1.trans k4, H4.out.2.2.1.step k4 (by simp), H4.out.2.2.2.1.trans k4, H4.out.2.2.2.2.step k4 (by simp)⟩
  clear k4 H4
  obtain ⟨b7, hb7⟩ : ∃ b, b = w4.heap.size := ⟨_, rfl⟩
  obtain ⟨V4, hV4⟩ : ∃ V, V = w4.alloc (.cells #[.int .i64 0, .int .i64 0, .int .i64 0, .int .i64 0, .int .i64 0, .string ⟨#[]⟩] 51) := ⟨_, rfl⟩
  have H6 : Hid (Rd V4 3 a x.es.length (entcs x.es) ∧ Step [] [] w V4 ∧ Blk V4 b 24 (rwc x (.slice a x.es.length cap)).toArray ∧ Step [] [] w2 V4 ∧ Blk V4 b5 47 #[.int .i64 0, .int .i64 0, .int .i64 0, .int .i64 0, .int .i64 0, .int .i64 0, .slice none 0 0] ∧ Blk V4 b7 51 #[.int .i64 0, .int .i64 0, .int .i64 0, .int .i64 0, .int .i64 0, .string ⟨#[]⟩]) := by
    rw [hV4, hb7]
    exact ⟨H5.out.1.alloc _, H5.out.2.1.alloc _, H5.out.2.2.1.alloc _, H5.out.2.2.2.1.alloc _, H5.out.2.2.2.2.alloc _, Blk.new _ _ _⟩
  go_upto_region 6 with fail
  rw [← hV4, ← hb7]
  clear hV4 hb7 H5
  have ra := H6.out.2.2.1.rw
  have rl := H6.out.2.2.1.lt
  go_wp2_with fail
  refine (refClean_any x a cap V4 H6.out.1 HL0.out.1).mono ?_
  rintro e w5 ⟨a3, cap3, rfl, r3, k5⟩
  rw [HK.out]
  rw [← HCL.out.2.2] at r3 ⊢
  clear ra rl
  obtain ⟨b9, hb9⟩ : ∃ b, b = w5.heap.size := ⟨_, rfl⟩
  obtain ⟨Q, hQ⟩ : ∃ V, V = w5.alloc (.cells (rwc y (.slice a3 y.es.length cap3)).toArray 24) := ⟨_, rfl⟩
  have HQ : Hid (Rd Q 3 a3 y.es.length (entcs y.es) ∧ Step [] [] w Q ∧ Blk Q b 24 (rwc x (.slice a x.es.length cap)).toArray ∧ Step [] [] w2 Q ∧ Blk Q b5 47 #[.int .i64 0, .int .i64 0, .int .i64 0, .int .i64 0, .int .i64 0, .int .i64 0, .slice none 0 0] ∧ Blk Q b7 51 #[.int .i64 0, .int .i64 0, .int .i64 0, .int .i64 0, .int .i64 0, .string ⟨#[]⟩] ∧ Blk Q b9 24 (rwc y (.slice a3 y.es.length cap3)).toArray) := by
    rw [hQ, hb9]
    exact ⟨r3.alloc _, (H6.out.2.1.trans k5).alloc _, (H6.out.2.2.1.step k5 (by simp)).alloc _, (H6.out.2.2.2.1.trans k5).alloc _, (H6.out.2.2.2.2.1.step k5 (by simp)).alloc _, (H6.out.2.2.2.2.2.step k5 (by simp)).alloc _, Blk.new _ _ _⟩
  clear r3 k5 H6
  go_upto_region 7 with fail
  rw [show w5.alloc (.cells #[.int .i64 y.kind, .int .i64 y.src, .int .i64 y.term, .int .i64 y.index, .int .i64 y.last, .int .i64 y.commit, .int .i64 y.round, .bool y.yes, .slice a3 y.es.length cap3, .string ⟨y.data.toArray⟩] 24) = Q from hQ.symm, ← hb9]
  clear hQ hb9
  have ra := HQ.out.2.2.1.rw
  have rl := HQ.out.2.2.1.lt
  go_upto_region 9 with fail
  clear ra rl
  refine wp_region_held_drew (S := fun W => Hid (Step [] [] Q W)) (by kernel_rfl) (Lib.hid ((Step.refl [] Q).drew)) (fun hHeld => ?_)
  refine wpAnyH_take (i := 0) (v := ?_) rfl (by kernel_rfl) (by kernel_rfl) (by kernel_rfl) (fun _ _ _ h => h) (Or.inl ⟨by rfl, ?_⟩) hHeld ?_
  rotate_left
  · intro w hSw
    have hSw1 := hSw
    clear hSw
    try dsimp only at hSw1
    go_simp
    try (with_reducible rfl)
  try simp only [Act.put, List.setIfInBounds_toArray, List.set_cons_zero, List.set_cons_succ, List.getElem_toArray, List.getElem_cons_zero, List.getElem_cons_succ]
  refine wpAnyH_take (i := 1) (v := ?_) rfl (by kernel_rfl) (by kernel_rfl) (by kernel_rfl) (fun _ _ _ h => h) (Or.inl ⟨by rfl, ?_⟩) hHeld ?_
  rotate_left
  · intro w hSw
    have hSw1 := hSw
    clear hSw
    try dsimp only at hSw1
    go_simp
    try (with_reducible rfl)
  try simp only [Act.put, List.setIfInBounds_toArray, List.set_cons_zero, List.set_cons_succ, List.getElem_toArray, List.getElem_cons_zero, List.getElem_cons_succ]
  refine wpAnyH_take (i := 2) (v := undef) rfl (by kernel_rfl) (by kernel_rfl) (by kernel_rfl) (fun _ _ _ h => h) (Or.inr ⟨by kernel_rfl, rfl⟩) hHeld ?_
  try simp only [Act.put, List.setIfInBounds_toArray, List.set_cons_zero, List.set_cons_succ, List.getElem_toArray, List.getElem_cons_zero, List.getElem_cons_succ]
  refine wpAnyH_take (i := 3) (v := undef) rfl (by kernel_rfl) (by kernel_rfl) (by kernel_rfl) (fun _ _ _ h => h) (Or.inr ⟨by kernel_rfl, rfl⟩) hHeld ?_
  try simp only [Act.put, List.setIfInBounds_toArray, List.set_cons_zero, List.set_cons_succ, List.getElem_toArray, List.getElem_cons_zero, List.getElem_cons_succ]
  refine wpAnyH_take (i := 4) (v := undef) rfl (by kernel_rfl) (by kernel_rfl) (by kernel_rfl) (fun _ _ _ h => h) (Or.inr ⟨by kernel_rfl, rfl⟩) hHeld ?_
  try simp only [Act.put, List.setIfInBounds_toArray, List.set_cons_zero, List.set_cons_succ, List.getElem_toArray, List.getElem_cons_zero, List.getElem_cons_succ]
  refine wpAnyH_take (i := 5) (v := undef) rfl (by kernel_rfl) (by kernel_rfl) (by kernel_rfl) (fun _ _ _ h => h) (Or.inr ⟨by kernel_rfl, rfl⟩) hHeld ?_
  try simp only [Act.put, List.setIfInBounds_toArray, List.set_cons_zero, List.set_cons_succ, List.getElem_toArray, List.getElem_cons_zero, List.getElem_cons_succ]
  refine wpAnyH_take (i := 6) (v := undef) rfl (by kernel_rfl) (by kernel_rfl) (by kernel_rfl) (fun _ _ _ h => h) (Or.inr ⟨by kernel_rfl, rfl⟩) hHeld ?_
  try simp only [Act.put, List.setIfInBounds_toArray, List.set_cons_zero, List.set_cons_succ, List.getElem_toArray, List.getElem_cons_zero, List.getElem_cons_succ]
  refine wpAnyH_take (i := 7) (v := ?_) rfl (by kernel_rfl) (by kernel_rfl) (by kernel_rfl) (fun _ _ _ h => h) (Or.inl ⟨by rfl, ?_⟩) hHeld ?_
  rotate_left
  · intro w hSw
    have hSw1 := hSw
    clear hSw
    try dsimp only at hSw1
    go_simp
    try (with_reducible rfl)
  try simp only [Act.put, List.setIfInBounds_toArray, List.set_cons_zero, List.set_cons_succ, List.getElem_toArray, List.getElem_cons_zero, List.getElem_cons_succ]
  refine wpAnyH_take (i := 8) (v := ?_) rfl (by kernel_rfl) (by kernel_rfl) (by kernel_rfl) (fun _ _ _ h => h) (Or.inl ⟨by rfl, ?_⟩) hHeld ?_
  rotate_left
  · intro w hSw
    have hSw1 := hSw
    clear hSw
    try dsimp only at hSw1
    go_simp
    try (with_reducible rfl)
  try simp only [Act.put, List.setIfInBounds_toArray, List.set_cons_zero, List.set_cons_succ, List.getElem_toArray, List.getElem_cons_zero, List.getElem_cons_succ]
  refine wpAnyH_take (i := 9) (v := ?_) rfl (by kernel_rfl) (by kernel_rfl) (by kernel_rfl) (fun _ _ _ h => h) (Or.inl ⟨by rfl, ?_⟩) hHeld ?_
  rotate_left
  · intro w hSw
    have hSw1 := hSw
    clear hSw
    try dsimp only at hSw1
    go_simp
    try (with_reducible rfl)
  try simp only [Act.put, List.setIfInBounds_toArray, List.set_cons_zero, List.set_cons_succ, List.getElem_toArray, List.getElem_cons_zero, List.getElem_cons_succ]
  refine wpAnyH_take (i := 10) (v := ?_) rfl (by kernel_rfl) (by kernel_rfl) (by kernel_rfl) (fun _ _ _ h => h) (Or.inl ⟨by rfl, ?_⟩) hHeld ?_
  rotate_left
  · intro w hSw
    have hSw1 := hSw
    clear hSw
    try dsimp only at hSw1
    go_simp
    try (with_reducible rfl)
  try simp only [Act.put, List.setIfInBounds_toArray, List.set_cons_zero, List.set_cons_succ, List.getElem_toArray, List.getElem_cons_zero, List.getElem_cons_succ]
  refine wpAnyH_take (i := 11) (v := ?_) rfl (by kernel_rfl) (by kernel_rfl) (by kernel_rfl) (fun _ _ _ h => h) (Or.inl ⟨by rfl, ?_⟩) hHeld ?_
  rotate_left
  · intro w hSw
    have hSw1 := hSw
    clear hSw
    try dsimp only at hSw1
    go_simp
    try (with_reducible rfl)
  try simp only [Act.put, List.setIfInBounds_toArray, List.set_cons_zero, List.set_cons_succ, List.getElem_toArray, List.getElem_cons_zero, List.getElem_cons_succ]
  refine wpAnyH_take (i := 12) (v := ?_) rfl (by kernel_rfl) (by kernel_rfl) (by kernel_rfl) (fun _ _ _ h => h) (Or.inl ⟨by rfl, ?_⟩) hHeld ?_
  rotate_left
  · intro w hSw
    have hSw1 := hSw
    clear hSw
    try dsimp only at hSw1
    go_simp
    try (with_reducible rfl)
  try simp only [Act.put, List.setIfInBounds_toArray, List.set_cons_zero, List.set_cons_succ, List.getElem_toArray, List.getElem_cons_zero, List.getElem_cons_succ]
  refine wpAnyH_take (i := 13) (v := ?_) rfl (by kernel_rfl) (by kernel_rfl) (by kernel_rfl) (fun _ _ _ h => h) (Or.inl ⟨by rfl, ?_⟩) hHeld ?_
  rotate_left
  · intro w hSw
    have hSw1 := hSw
    clear hSw
    have q0 := (HQ.out.2.2.2.2.1.step hSw1.out (by simp)).cell 0
    have q1 := (HQ.out.2.2.2.2.1.step hSw1.out (by simp)).cell 1
    have q2 := (HQ.out.2.2.2.2.1.step hSw1.out (by simp)).cell 2
    have q3 := (HQ.out.2.2.2.2.1.step hSw1.out (by simp)).cell 3
    have q4 := (HQ.out.2.2.2.2.1.step hSw1.out (by simp)).cell 4
    have q5 := (HQ.out.2.2.2.2.1.step hSw1.out (by simp)).cell 5
    have q6 := (HQ.out.2.2.2.2.1.step hSw1.out (by simp)).cell 6
    have ql := (HQ.out.2.2.2.2.1.step hSw1.out (by simp)).lt
    simp only [List.getElem?_toArray, List.getElem?_cons_zero, List.getElem?_cons_succ] at q0 q1 q2 q3 q4 q5 q6
    go_simp
    try (with_reducible rfl)
  try simp only [Act.put, List.setIfInBounds_toArray, List.set_cons_zero, List.set_cons_succ, List.getElem_toArray, List.getElem_cons_zero, List.getElem_cons_succ]
  refine wpAnyH_take (i := 14) (v := ?_) rfl (by kernel_rfl) (by kernel_rfl) (by kernel_rfl) (fun _ _ _ h => h) (Or.inl ⟨by rfl, ?_⟩) hHeld ?_
  rotate_left
  · intro w hSw
    have hSw1 := hSw
    clear hSw
    try dsimp only at hSw1
    go_simp
    try (with_reducible rfl)
  try simp only [Act.put, List.setIfInBounds_toArray, List.set_cons_zero, List.set_cons_succ, List.getElem_toArray, List.getElem_cons_zero, List.getElem_cons_succ]
  refine wpAnyH_take (i := 15) (v := ?_) rfl (by kernel_rfl) (by kernel_rfl) (by kernel_rfl) (fun _ _ _ h => h) (Or.inl ⟨by rfl, ?_⟩) hHeld ?_
  rotate_left
  · intro w hSw
    have hSw1 := hSw
    clear hSw
    try dsimp only at hSw1
    go_simp
    try (with_reducible rfl)
  try simp only [Act.put, List.setIfInBounds_toArray, List.set_cons_zero, List.set_cons_succ, List.getElem_toArray, List.getElem_cons_zero, List.getElem_cons_succ]
  refine wpAnyH_take (i := 16) (v := ?_) rfl (by kernel_rfl) (by kernel_rfl) (by kernel_rfl) (fun _ _ _ h => h) (Or.inl ⟨by rfl, ?_⟩) hHeld ?_
  rotate_left
  · intro w hSw
    have hSw1 := hSw
    clear hSw
    try dsimp only at hSw1
    go_simp
    try (with_reducible rfl)
  try simp only [Act.put, List.setIfInBounds_toArray, List.set_cons_zero, List.set_cons_succ, List.getElem_toArray, List.getElem_cons_zero, List.getElem_cons_succ]
  refine wpAnyH_take (i := 17) (v := ?_) rfl (by kernel_rfl) (by kernel_rfl) (by kernel_rfl) (fun _ _ _ h => h) (Or.inl ⟨by rfl, ?_⟩) hHeld ?_
  rotate_left
  · intro w hSw
    have hSw1 := hSw
    clear hSw
    have q0 := (HQ.out.2.2.2.2.1.step hSw1.out (by simp)).cell 0
    have q1 := (HQ.out.2.2.2.2.1.step hSw1.out (by simp)).cell 1
    have q2 := (HQ.out.2.2.2.2.1.step hSw1.out (by simp)).cell 2
    have q3 := (HQ.out.2.2.2.2.1.step hSw1.out (by simp)).cell 3
    have q4 := (HQ.out.2.2.2.2.1.step hSw1.out (by simp)).cell 4
    have q5 := (HQ.out.2.2.2.2.1.step hSw1.out (by simp)).cell 5
    have q6 := (HQ.out.2.2.2.2.1.step hSw1.out (by simp)).cell 6
    have ql := (HQ.out.2.2.2.2.1.step hSw1.out (by simp)).lt
    simp only [List.getElem?_toArray, List.getElem?_cons_zero, List.getElem?_cons_succ] at q0 q1 q2 q3 q4 q5 q6
    go_simp
    try (with_reducible rfl)
  try simp only [Act.put, List.setIfInBounds_toArray, List.set_cons_zero, List.set_cons_succ, List.getElem_toArray, List.getElem_cons_zero, List.getElem_cons_succ]
  refine wpAnyH_take (i := 18) (v := ?_) rfl (by kernel_rfl) (by kernel_rfl) (by kernel_rfl) (fun _ _ _ h => h) (Or.inl ⟨by rfl, ?_⟩) hHeld ?_
  rotate_left
  · intro w hSw
    have hSw1 := hSw
    clear hSw
    try dsimp only at hSw1
    go_simp
    try (with_reducible rfl)
  try simp only [Act.put, List.setIfInBounds_toArray, List.set_cons_zero, List.set_cons_succ, List.getElem_toArray, List.getElem_cons_zero, List.getElem_cons_succ]
  refine wpAnyH_take (i := 19) (v := ?_) rfl (by kernel_rfl) (by kernel_rfl) (by kernel_rfl) (fun _ _ _ h => h) (Or.inl ⟨by rfl, ?_⟩) hHeld ?_
  rotate_left
  · intro w hSw
    have hSw1 := hSw
    clear hSw
    try dsimp only at hSw1
    go_simp
    try (with_reducible rfl)
  try simp only [Act.put, List.setIfInBounds_toArray, List.set_cons_zero, List.set_cons_succ, List.getElem_toArray, List.getElem_cons_zero, List.getElem_cons_succ]
  refine wpAnyH_take (i := 20) (v := ?_) rfl (by kernel_rfl) (by kernel_rfl) (by kernel_rfl) (fun _ _ _ h => h) (Or.inl ⟨by rfl, ?_⟩) hHeld ?_
  rotate_left
  · intro w hSw
    have hSw1 := hSw
    clear hSw
    try dsimp only at hSw1
    go_simp
    try (with_reducible rfl)
  try simp only [Act.put, List.setIfInBounds_toArray, List.set_cons_zero, List.set_cons_succ, List.getElem_toArray, List.getElem_cons_zero, List.getElem_cons_succ]
  refine wpAnyH_take (i := 21) (v := ?_) rfl (by kernel_rfl) (by kernel_rfl) (by kernel_rfl) (fun _ _ _ h => h) (Or.inl ⟨by rfl, ?_⟩) hHeld ?_
  rotate_left
  · intro w hSw
    have hSw1 := hSw
    clear hSw
    try dsimp only at hSw1
    go_simp
    try (with_reducible rfl)
  try simp only [Act.put, List.setIfInBounds_toArray, List.set_cons_zero, List.set_cons_succ, List.getElem_toArray, List.getElem_cons_zero, List.getElem_cons_succ]
  refine wpAnyH_take (i := 22) (v := ?_) rfl (by kernel_rfl) (by kernel_rfl) (by kernel_rfl) (fun _ _ _ h => h) (Or.inl ⟨by rfl, ?_⟩) hHeld ?_
  rotate_left
  · intro w hSw
    have hSw1 := hSw
    clear hSw
    have q0 := (HQ.out.2.2.2.2.1.step hSw1.out (by simp)).cell 0
    have q1 := (HQ.out.2.2.2.2.1.step hSw1.out (by simp)).cell 1
    have q2 := (HQ.out.2.2.2.2.1.step hSw1.out (by simp)).cell 2
    have q3 := (HQ.out.2.2.2.2.1.step hSw1.out (by simp)).cell 3
    have q4 := (HQ.out.2.2.2.2.1.step hSw1.out (by simp)).cell 4
    have q5 := (HQ.out.2.2.2.2.1.step hSw1.out (by simp)).cell 5
    have q6 := (HQ.out.2.2.2.2.1.step hSw1.out (by simp)).cell 6
    have ql := (HQ.out.2.2.2.2.1.step hSw1.out (by simp)).lt
    simp only [List.getElem?_toArray, List.getElem?_cons_zero, List.getElem?_cons_succ] at q0 q1 q2 q3 q4 q5 q6
    go_simp
    try (with_reducible rfl)
  try simp only [Act.put, List.setIfInBounds_toArray, List.set_cons_zero, List.set_cons_succ, List.getElem_toArray, List.getElem_cons_zero, List.getElem_cons_succ]
  refine wpAnyH_take (i := 23) (v := ?_) rfl (by kernel_rfl) (by kernel_rfl) (by kernel_rfl) (fun _ _ _ h => h) (Or.inl ⟨by rfl, ?_⟩) hHeld ?_
  rotate_left
  · intro w hSw
    have hSw1 := hSw
    clear hSw
    try dsimp only at hSw1
    go_simp
    try (with_reducible rfl)
  try simp only [Act.put, List.setIfInBounds_toArray, List.set_cons_zero, List.set_cons_succ, List.getElem_toArray, List.getElem_cons_zero, List.getElem_cons_succ]
  refine wpAnyH_take (i := 24) (v := ?_) rfl (by kernel_rfl) (by kernel_rfl) (by kernel_rfl) (fun _ _ _ h => h) (Or.inl ⟨by rfl, ?_⟩) hHeld ?_
  rotate_left
  · intro w hSw
    have hSw1 := hSw
    clear hSw
    try dsimp only at hSw1
    go_simp
    try (with_reducible rfl)
  try simp only [Act.put, List.setIfInBounds_toArray, List.set_cons_zero, List.set_cons_succ, List.getElem_toArray, List.getElem_cons_zero, List.getElem_cons_succ]
  refine wpAnyH_take (i := 25) (v := ?_) rfl (by kernel_rfl) (by kernel_rfl) (by kernel_rfl) (fun _ _ _ h => h) (Or.inl ⟨by rfl, ?_⟩) hHeld ?_
  rotate_left
  · intro w hSw
    have hSw1 := hSw
    clear hSw
    try dsimp only at hSw1
    go_simp
    try (with_reducible rfl)
  try simp only [Act.put, List.setIfInBounds_toArray, List.set_cons_zero, List.set_cons_succ, List.getElem_toArray, List.getElem_cons_zero, List.getElem_cons_succ]
  refine wpAnyH_take (i := 26) (v := ?_) rfl (by kernel_rfl) (by kernel_rfl) (by kernel_rfl) (fun _ _ _ h => h) (Or.inl ⟨by rfl, ?_⟩) hHeld ?_
  rotate_left
  · intro w hSw
    have hSw1 := hSw
    clear hSw
    try dsimp only at hSw1
    go_simp
    try (with_reducible rfl)
  try simp only [Act.put, List.setIfInBounds_toArray, List.set_cons_zero, List.set_cons_succ, List.getElem_toArray, List.getElem_cons_zero, List.getElem_cons_succ]
  refine wpAnyH_take (i := 27) (v := ?_) rfl (by kernel_rfl) (by kernel_rfl) (by kernel_rfl) (fun _ _ _ h => h) (Or.inl ⟨by rfl, ?_⟩) hHeld ?_
  rotate_left
  · intro w hSw
    have hSw1 := hSw
    clear hSw
    try dsimp only at hSw1
    go_simp
    try (with_reducible rfl)
  try simp only [Act.put, List.setIfInBounds_toArray, List.set_cons_zero, List.set_cons_succ, List.getElem_toArray, List.getElem_cons_zero, List.getElem_cons_succ]
  refine wpAnyH_done (by kernel_rfl) ?_ _
  obtain ⟨Q2, hQ2⟩ : ∃ V, V = Q.drew := ⟨_, rfl⟩
  have HS2 : Hid (Step [] [] Q Q2) := by
    rw [hQ2]
    exact (Step.refl [] Q).drew
  rw [← hQ2]
  clear hQ2
  go_upto_region 11 with fail
  refine wp_region_held_drew (S := fun W => Hid (Step [] [] Q2 W)) (by kernel_rfl) (Lib.hid ((Step.refl [] Q2).drew)) (fun hHeld => ?_)
  refine wpAnyH_take (i := 0) (v := ?_) rfl (by kernel_rfl) (by kernel_rfl) (by kernel_rfl) (fun _ _ _ h => h) (Or.inl ⟨by rfl, ?_⟩) hHeld ?_
  rotate_left
  · intro w hSw
    have hSw1 := hSw
    clear hSw
    try dsimp only at hSw1
    go_simp
    try (with_reducible rfl)
  try simp only [Act.put, List.setIfInBounds_toArray, List.set_cons_zero, List.set_cons_succ, List.getElem_toArray, List.getElem_cons_zero, List.getElem_cons_succ]
  refine wpAnyH_take (i := 1) (v := ?_) rfl (by kernel_rfl) (by kernel_rfl) (by kernel_rfl) (fun _ _ _ h => h) (Or.inl ⟨by rfl, ?_⟩) hHeld ?_
  rotate_left
  · intro w hSw
    have hSw1 := hSw
    clear hSw
    try dsimp only at hSw1
    go_simp
    try (with_reducible rfl)
  try simp only [Act.put, List.setIfInBounds_toArray, List.set_cons_zero, List.set_cons_succ, List.getElem_toArray, List.getElem_cons_zero, List.getElem_cons_succ]
  refine wpAnyH_take (i := 2) (v := undef) rfl (by kernel_rfl) (by kernel_rfl) (by kernel_rfl) (fun _ _ _ h => h) (Or.inr ⟨by kernel_rfl, rfl⟩) hHeld ?_
  try simp only [Act.put, List.setIfInBounds_toArray, List.set_cons_zero, List.set_cons_succ, List.getElem_toArray, List.getElem_cons_zero, List.getElem_cons_succ]
  refine wpAnyH_take (i := 3) (v := undef) rfl (by kernel_rfl) (by kernel_rfl) (by kernel_rfl) (fun _ _ _ h => h) (Or.inr ⟨by kernel_rfl, rfl⟩) hHeld ?_
  try simp only [Act.put, List.setIfInBounds_toArray, List.set_cons_zero, List.set_cons_succ, List.getElem_toArray, List.getElem_cons_zero, List.getElem_cons_succ]
  refine wpAnyH_take (i := 4) (v := undef) rfl (by kernel_rfl) (by kernel_rfl) (by kernel_rfl) (fun _ _ _ h => h) (Or.inr ⟨by kernel_rfl, rfl⟩) hHeld ?_
  try simp only [Act.put, List.setIfInBounds_toArray, List.set_cons_zero, List.set_cons_succ, List.getElem_toArray, List.getElem_cons_zero, List.getElem_cons_succ]
  refine wpAnyH_take (i := 5) (v := undef) rfl (by kernel_rfl) (by kernel_rfl) (by kernel_rfl) (fun _ _ _ h => h) (Or.inr ⟨by kernel_rfl, rfl⟩) hHeld ?_
  try simp only [Act.put, List.setIfInBounds_toArray, List.set_cons_zero, List.set_cons_succ, List.getElem_toArray, List.getElem_cons_zero, List.getElem_cons_succ]
  refine wpAnyH_take (i := 6) (v := ?_) rfl (by kernel_rfl) (by kernel_rfl) (by kernel_rfl) (fun _ _ _ h => h) (Or.inl ⟨by rfl, ?_⟩) hHeld ?_
  rotate_left
  · intro w hSw
    have hSw1 := hSw
    clear hSw
    try dsimp only at hSw1
    go_simp
    try (with_reducible rfl)
  try simp only [Act.put, List.setIfInBounds_toArray, List.set_cons_zero, List.set_cons_succ, List.getElem_toArray, List.getElem_cons_zero, List.getElem_cons_succ]
  refine wpAnyH_take (i := 7) (v := ?_) rfl (by kernel_rfl) (by kernel_rfl) (by kernel_rfl) (fun _ _ _ h => h) (Or.inl ⟨by rfl, ?_⟩) hHeld ?_
  rotate_left
  · intro w hSw
    have hSw1 := hSw
    clear hSw
    try dsimp only at hSw1
    go_simp
    try (with_reducible rfl)
  try simp only [Act.put, List.setIfInBounds_toArray, List.set_cons_zero, List.set_cons_succ, List.getElem_toArray, List.getElem_cons_zero, List.getElem_cons_succ]
  refine wpAnyH_done (by kernel_rfl) ?_ _
  go_wp2_with fail
  exact bodyPost_ret (results_tmp rfl _ _ _) rfl ⟨rfl, (HQ.out.2.1.trans HS2.out).drew⟩

set_option maxHeartbeats 8000000 in
theorem kinds10_2 (x : Rw) (a : Option Addr) (cap : Nat) (w : World) (hik : x.kind = 2) (hr : Rd w 3 a x.es.length (entcs x.es)) (hl : x.es.length ≤ 4398046511104) (hd : x.data.length ≤ 140737488351232) :
    Calls Try.prog 7 #[rwV x (.slice a x.es.length cap)] w fun e w' => e = .returned (.bool true) ∧ Step [] [] w w' := by
  have k3 : (x.kind == 3) = false := by rw [hik]; rfl
  have k5 : (x.kind == 5) = false := by rw [hik]; rfl
  have HKX := Lib.hid hik
  have HK : Hid (isKind x.kind = true) := Lib.hid (by rw [hik]; rfl)
  clear hik
  have H0 : Hid (Rd (w.alloc (.cells (rwc x (.slice a x.es.length cap)).toArray 24)) 3 a x.es.length (entcs x.es) ∧ Step [] [] w (w.alloc (.cells (rwc x (.slice a x.es.length cap)).toArray 24)) ∧ Blk (w.alloc (.cells (rwc x (.slice a x.es.length cap)).toArray 24)) w.heap.size 24 (rwc x (.slice a x.es.length cap)).toArray) := ⟨hr.alloc _, (Step.refl [] w).alloc _, Blk.new w _ _⟩
  have HL0 := Lib.hid (And.intro hl (And.intro (clean_len x) hd))
  clear hr hl hd
  go_enter Try.func7, Try.ntmps7
  go_wp2_with fail
  refine (awake10_true _).mono ?_
  rintro e w1 ⟨rfl, k1⟩
  obtain ⟨b, hb⟩ : ∃ b, b = w.heap.size := ⟨_, rfl⟩
  have H1 : Hid (Rd w1 3 a x.es.length (entcs x.es) ∧ Step [] [] w w1 ∧ Blk w1 b 24 (rwc x (.slice a x.es.length cap)).toArray) := by
    rw [hb]
    exact ⟨H0.out.1.step0 k1, H0.out.2.1.trans k1, H0.out.2.2.step k1 (by simp)⟩
  rw [← hb]
  clear k1 hb H0
  have ra := H1.out.2.2.rw
  have rl := H1.out.2.2.lt
  go_wp2_with fail
  refine (of_any x a cap w1 HK.out H1.out.1 HL0.out.1).mono ?_
  rintro e w2 ⟨m, rfl, hm, k2⟩
  obtain ⟨y, hy⟩ : ∃ y, y = cleanL x := ⟨_, rfl⟩
  have HCL : Hid ((cleanL y = y ∧ isKind y.kind = true) ∧ (y.es.length ≤ 4398046511104 ∧ True) ∧ y = cleanL x) := by
    rw [hy]
    exact ⟨⟨(clean_clean x HK.out).1, by rw [(clean_clean x HK.out).2]; exact HK.out⟩, ⟨Nat.le_trans HL0.out.2.1 HL0.out.1, trivial⟩, rfl⟩
  have hyk : y.kind = 2 := by rw [hy, (clean_clean x HK.out).2]; exact HKX.out
  rw [← hy] at hm
  clear hy
  have hno := hm.noes
  obtain ⟨ay, capy, hry, h5⟩ := hm.open_
  have H2 : Hid (Rd w2 3 a x.es.length (entcs x.es) ∧ Step [] [] w w2 ∧ Blk w2 b 24 (rwc x (.slice a x.es.length cap)).toArray) := ⟨H1.out.1.step0 k2, H1.out.2.1.trans k2, H1.out.2.2.step k2 (by simp)⟩
  have HY : Hid (y.kind = 2 ∧ y.es = []) := Lib.hid ⟨hyk, hno (by omega)⟩
  have hm' : m = .iface 55 (.agg #[.int .i64 y.src, .int .i64 y.term, .bool y.yes]) := by
    rcases h5 with ⟨h, e⟩ | ⟨h, e⟩ | ⟨h, e⟩ | ⟨h, e⟩ | ⟨h, e⟩ <;> first | exact e | (exfalso; omega)
  subst hm'
  clear ra rl k2 H1 hm hno hry h5 hyk
  have ra := H2.out.2.2.rw
  have rl := H2.out.2.2.lt
  go_wp2_with fail
  refine (isApp_no _ w2 (ta23 _)).mono ?_
  rintro e w3 ⟨rfl, k3⟩
  unfold appZ
  have H3 : Hid (Rd w3 3 a x.es.length (entcs x.es) ∧ Step [] [] w w3 ∧ Blk w3 b 24 (rwc x (.slice a x.es.length cap)).toArray ∧ Step [] [] w2 w3) := ⟨H2.out.1.step0 k3, H2.out.2.1.trans k3, H2.out.2.2.step k3 (by simp), k3⟩
  clear k3 ra rl
  go_wp2_with fail
  obtain ⟨b5, hb5⟩ : ∃ b, b = w3.heap.size := ⟨_, rfl⟩
  obtain ⟨V3, hV3⟩ : ∃ V, V = w3.alloc (.cells #[.int .i64 0, .int .i64 0, .int .i64 0, .int .i64 0, .int .i64 0, .int .i64 0, .slice none 0 0] 47) := ⟨_, rfl⟩
  have H4 : Hid (Rd V3 3 a x.es.length (entcs x.es) ∧ Step [] [] w V3 ∧ Blk V3 b 24 (rwc x (.slice a x.es.length cap)).toArray ∧ Step [] [] w2 V3 ∧ Blk V3 b5 47 #[.int .i64 0, .int .i64 0, .int .i64 0, .int .i64 0, .int .i64 0, .int .i64 0, .slice none 0 0]) := by
    rw [hV3, hb5]
    exact ⟨H3.out.1.alloc _, H3.out.2.1.alloc _, H3.out.2.2.1.alloc _, H3.out.2.2.2.alloc _, Blk.new _ _ _⟩
  rw [← hV3, ← hb5]
  clear hV3 hb5 H3
  refine (must_no _ V3 (fun W => mustShot_no _ W _ (fun X _ => tp2 _ X))).mono ?_
  rintro e w4 ⟨rfl, k4⟩
  unfold shotZ
  have H5 : Hid (Rd w4 3 a x.es.length (entcs x.es) ∧ Step [] [] w w4 ∧ Blk w4 b 24 (rwc x (.slice a x.es.length cap)).toArray ∧ Step [] [] w2 w4 ∧ Blk w4 b5 47 #[.int .i64 0, .int .i64 0, .int .i64 0, .int .i64 0, .int .i64 0, .int .i64 0, .slice none 0 0]) := ⟨H4.out.1.step0 k4, H4.out.2.1.trans k4, H4.out.2.2.1.step k4 (by simp), H4.out.2.2.2.1.trans k4, H4.out.2.2.2.2.step k4 (by simp)⟩
  clear k4 H4
  obtain ⟨b7, hb7⟩ : ∃ b, b = w4.heap.size := ⟨_, rfl⟩
  obtain ⟨V4, hV4⟩ : ∃ V, V = w4.alloc (.cells #[.int .i64 0, .int .i64 0, .int .i64 0, .int .i64 0, .int .i64 0, .string ⟨#[]⟩] 51) := ⟨_, rfl⟩
  have H6 : Hid (Rd V4 3 a x.es.length (entcs x.es) ∧ Step [] [] w V4 ∧ Blk V4 b 24 (rwc x (.slice a x.es.length cap)).toArray ∧ Step [] [] w2 V4 ∧ Blk V4 b5 47 #[.int .i64 0, .int .i64 0, .int .i64 0, .int .i64 0, .int .i64 0, .int .i64 0, .slice none 0 0] ∧ Blk V4 b7 51 #[.int .i64 0, .int .i64 0, .int .i64 0, .int .i64 0, .int .i64 0, .string ⟨#[]⟩]) := by
    rw [hV4, hb7]
    exact ⟨H5.out.1.alloc _, H5.out.2.1.alloc _, H5.out.2.2.1.alloc _, H5.out.2.2.2.1.alloc _, H5.out.2.2.2.2.alloc _, Blk.new _ _ _⟩
  go_upto_region 6 with fail
  rw [← hV4, ← hb7]
  clear hV4 hb7 H5
  have ra := H6.out.2.2.1.rw
  have rl := H6.out.2.2.1.lt
  go_wp2_with fail
  refine (refClean_any x a cap V4 H6.out.1 HL0.out.1).mono ?_
  rintro e w5 ⟨a3, cap3, rfl, r3, k5⟩
  rw [HK.out]
  rw [← HCL.out.2.2] at r3 ⊢
  clear ra rl
  obtain ⟨b9, hb9⟩ : ∃ b, b = w5.heap.size := ⟨_, rfl⟩
  obtain ⟨Q, hQ⟩ : ∃ V, V = w5.alloc (.cells (rwc y (.slice a3 y.es.length cap3)).toArray 24) := ⟨_, rfl⟩
  have HQ : Hid (Rd Q 3 a3 y.es.length (entcs y.es) ∧ Step [] [] w Q ∧ Blk Q b 24 (rwc x (.slice a x.es.length cap)).toArray ∧ Step [] [] w2 Q ∧ Blk Q b5 47 #[.int .i64 0, .int .i64 0, .int .i64 0, .int .i64 0, .int .i64 0, .int .i64 0, .slice none 0 0] ∧ Blk Q b7 51 #[.int .i64 0, .int .i64 0, .int .i64 0, .int .i64 0, .int .i64 0, .string ⟨#[]⟩] ∧ Blk Q b9 24 (rwc y (.slice a3 y.es.length cap3)).toArray) := by
    rw [hQ, hb9]
    exact ⟨r3.alloc _, (H6.out.2.1.trans k5).alloc _, (H6.out.2.2.1.step k5 (by simp)).alloc _, (H6.out.2.2.2.1.trans k5).alloc _, (H6.out.2.2.2.2.1.step k5 (by simp)).alloc _, (H6.out.2.2.2.2.2.step k5 (by simp)).alloc _, Blk.new _ _ _⟩
  clear r3 k5 H6
  go_upto_region 7 with fail
  rw [show w5.alloc (.cells #[.int .i64 y.kind, .int .i64 y.src, .int .i64 y.term, .int .i64 y.index, .int .i64 y.last, .int .i64 y.commit, .int .i64 y.round, .bool y.yes, .slice a3 y.es.length cap3, .string ⟨y.data.toArray⟩] 24) = Q from hQ.symm, ← hb9]
  clear hQ hb9
  have ra := HQ.out.2.2.1.rw
  have rl := HQ.out.2.2.1.lt
  go_upto_region 9 with fail
  clear ra rl
  refine wp_region_held_drew (S := fun W => Hid (Step [] [] Q W)) (by kernel_rfl) (Lib.hid ((Step.refl [] Q).drew)) (fun hHeld => ?_)
  refine wpAnyH_take (i := 0) (v := ?_) rfl (by kernel_rfl) (by kernel_rfl) (by kernel_rfl) (fun _ _ _ h => h) (Or.inl ⟨by rfl, ?_⟩) hHeld ?_
  rotate_left
  · intro w hSw
    have hSw1 := hSw
    clear hSw
    try dsimp only at hSw1
    go_simp
    try (with_reducible rfl)
  try simp only [Act.put, List.setIfInBounds_toArray, List.set_cons_zero, List.set_cons_succ, List.getElem_toArray, List.getElem_cons_zero, List.getElem_cons_succ]
  refine wpAnyH_take (i := 1) (v := ?_) rfl (by kernel_rfl) (by kernel_rfl) (by kernel_rfl) (fun _ _ _ h => h) (Or.inl ⟨by rfl, ?_⟩) hHeld ?_
  rotate_left
  · intro w hSw
    have hSw1 := hSw
    clear hSw
    try dsimp only at hSw1
    go_simp
    try (with_reducible rfl)
  try simp only [Act.put, List.setIfInBounds_toArray, List.set_cons_zero, List.set_cons_succ, List.getElem_toArray, List.getElem_cons_zero, List.getElem_cons_succ]
  refine wpAnyH_take (i := 2) (v := undef) rfl (by kernel_rfl) (by kernel_rfl) (by kernel_rfl) (fun _ _ _ h => h) (Or.inr ⟨by kernel_rfl, rfl⟩) hHeld ?_
  try simp only [Act.put, List.setIfInBounds_toArray, List.set_cons_zero, List.set_cons_succ, List.getElem_toArray, List.getElem_cons_zero, List.getElem_cons_succ]
  refine wpAnyH_take (i := 3) (v := undef) rfl (by kernel_rfl) (by kernel_rfl) (by kernel_rfl) (fun _ _ _ h => h) (Or.inr ⟨by kernel_rfl, rfl⟩) hHeld ?_
  try simp only [Act.put, List.setIfInBounds_toArray, List.set_cons_zero, List.set_cons_succ, List.getElem_toArray, List.getElem_cons_zero, List.getElem_cons_succ]
  refine wpAnyH_take (i := 4) (v := undef) rfl (by kernel_rfl) (by kernel_rfl) (by kernel_rfl) (fun _ _ _ h => h) (Or.inr ⟨by kernel_rfl, rfl⟩) hHeld ?_
  try simp only [Act.put, List.setIfInBounds_toArray, List.set_cons_zero, List.set_cons_succ, List.getElem_toArray, List.getElem_cons_zero, List.getElem_cons_succ]
  refine wpAnyH_take (i := 5) (v := undef) rfl (by kernel_rfl) (by kernel_rfl) (by kernel_rfl) (fun _ _ _ h => h) (Or.inr ⟨by kernel_rfl, rfl⟩) hHeld ?_
  try simp only [Act.put, List.setIfInBounds_toArray, List.set_cons_zero, List.set_cons_succ, List.getElem_toArray, List.getElem_cons_zero, List.getElem_cons_succ]
  refine wpAnyH_take (i := 6) (v := undef) rfl (by kernel_rfl) (by kernel_rfl) (by kernel_rfl) (fun _ _ _ h => h) (Or.inr ⟨by kernel_rfl, rfl⟩) hHeld ?_
  try simp only [Act.put, List.setIfInBounds_toArray, List.set_cons_zero, List.set_cons_succ, List.getElem_toArray, List.getElem_cons_zero, List.getElem_cons_succ]
  refine wpAnyH_take (i := 7) (v := ?_) rfl (by kernel_rfl) (by kernel_rfl) (by kernel_rfl) (fun _ _ _ h => h) (Or.inl ⟨by rfl, ?_⟩) hHeld ?_
  rotate_left
  · intro w hSw
    have hSw1 := hSw
    clear hSw
    try dsimp only at hSw1
    go_simp
    try (with_reducible rfl)
  try simp only [Act.put, List.setIfInBounds_toArray, List.set_cons_zero, List.set_cons_succ, List.getElem_toArray, List.getElem_cons_zero, List.getElem_cons_succ]
  refine wpAnyH_take (i := 8) (v := ?_) rfl (by kernel_rfl) (by kernel_rfl) (by kernel_rfl) (fun _ _ _ h => h) (Or.inl ⟨by rfl, ?_⟩) hHeld ?_
  rotate_left
  · intro w hSw
    have hSw1 := hSw
    clear hSw
    try dsimp only at hSw1
    go_simp
    try (with_reducible rfl)
  try simp only [Act.put, List.setIfInBounds_toArray, List.set_cons_zero, List.set_cons_succ, List.getElem_toArray, List.getElem_cons_zero, List.getElem_cons_succ]
  refine wpAnyH_take (i := 9) (v := ?_) rfl (by kernel_rfl) (by kernel_rfl) (by kernel_rfl) (fun _ _ _ h => h) (Or.inl ⟨by rfl, ?_⟩) hHeld ?_
  rotate_left
  · intro w hSw
    have hSw1 := hSw
    clear hSw
    try dsimp only at hSw1
    go_simp
    try (with_reducible rfl)
  try simp only [Act.put, List.setIfInBounds_toArray, List.set_cons_zero, List.set_cons_succ, List.getElem_toArray, List.getElem_cons_zero, List.getElem_cons_succ]
  refine wpAnyH_take (i := 10) (v := ?_) rfl (by kernel_rfl) (by kernel_rfl) (by kernel_rfl) (fun _ _ _ h => h) (Or.inl ⟨by rfl, ?_⟩) hHeld ?_
  rotate_left
  · intro w hSw
    have hSw1 := hSw
    clear hSw
    try dsimp only at hSw1
    go_simp
    try (with_reducible rfl)
  try simp only [Act.put, List.setIfInBounds_toArray, List.set_cons_zero, List.set_cons_succ, List.getElem_toArray, List.getElem_cons_zero, List.getElem_cons_succ]
  refine wpAnyH_take (i := 11) (v := ?_) rfl (by kernel_rfl) (by kernel_rfl) (by kernel_rfl) (fun _ _ _ h => h) (Or.inl ⟨by rfl, ?_⟩) hHeld ?_
  rotate_left
  · intro w hSw
    have hSw1 := hSw
    clear hSw
    try dsimp only at hSw1
    go_simp
    try (with_reducible rfl)
  try simp only [Act.put, List.setIfInBounds_toArray, List.set_cons_zero, List.set_cons_succ, List.getElem_toArray, List.getElem_cons_zero, List.getElem_cons_succ]
  refine wpAnyH_take (i := 12) (v := ?_) rfl (by kernel_rfl) (by kernel_rfl) (by kernel_rfl) (fun _ _ _ h => h) (Or.inl ⟨by rfl, ?_⟩) hHeld ?_
  rotate_left
  · intro w hSw
    have hSw1 := hSw
    clear hSw
    try dsimp only at hSw1
    go_simp
    try (with_reducible rfl)
  try simp only [Act.put, List.setIfInBounds_toArray, List.set_cons_zero, List.set_cons_succ, List.getElem_toArray, List.getElem_cons_zero, List.getElem_cons_succ]
  refine wpAnyH_take (i := 13) (v := ?_) rfl (by kernel_rfl) (by kernel_rfl) (by kernel_rfl) (fun _ _ _ h => h) (Or.inl ⟨by rfl, ?_⟩) hHeld ?_
  rotate_left
  · intro w hSw
    have hSw1 := hSw
    clear hSw
    have q0 := (HQ.out.2.2.2.2.1.step hSw1.out (by simp)).cell 0
    have q1 := (HQ.out.2.2.2.2.1.step hSw1.out (by simp)).cell 1
    have q2 := (HQ.out.2.2.2.2.1.step hSw1.out (by simp)).cell 2
    have q3 := (HQ.out.2.2.2.2.1.step hSw1.out (by simp)).cell 3
    have q4 := (HQ.out.2.2.2.2.1.step hSw1.out (by simp)).cell 4
    have q5 := (HQ.out.2.2.2.2.1.step hSw1.out (by simp)).cell 5
    have q6 := (HQ.out.2.2.2.2.1.step hSw1.out (by simp)).cell 6
    have ql := (HQ.out.2.2.2.2.1.step hSw1.out (by simp)).lt
    simp only [List.getElem?_toArray, List.getElem?_cons_zero, List.getElem?_cons_succ] at q0 q1 q2 q3 q4 q5 q6
    go_simp
    try (with_reducible rfl)
  try simp only [Act.put, List.setIfInBounds_toArray, List.set_cons_zero, List.set_cons_succ, List.getElem_toArray, List.getElem_cons_zero, List.getElem_cons_succ]
  refine wpAnyH_take (i := 14) (v := ?_) rfl (by kernel_rfl) (by kernel_rfl) (by kernel_rfl) (fun _ _ _ h => h) (Or.inl ⟨by rfl, ?_⟩) hHeld ?_
  rotate_left
  · intro w hSw
    have hSw1 := hSw
    clear hSw
    try dsimp only at hSw1
    go_simp
    try (with_reducible rfl)
  try simp only [Act.put, List.setIfInBounds_toArray, List.set_cons_zero, List.set_cons_succ, List.getElem_toArray, List.getElem_cons_zero, List.getElem_cons_succ]
  refine wpAnyH_take (i := 15) (v := ?_) rfl (by kernel_rfl) (by kernel_rfl) (by kernel_rfl) (fun _ _ _ h => h) (Or.inl ⟨by rfl, ?_⟩) hHeld ?_
  rotate_left
  · intro w hSw
    have hSw1 := hSw
    clear hSw
    try dsimp only at hSw1
    go_simp
    try (with_reducible rfl)
  try simp only [Act.put, List.setIfInBounds_toArray, List.set_cons_zero, List.set_cons_succ, List.getElem_toArray, List.getElem_cons_zero, List.getElem_cons_succ]
  refine wpAnyH_take (i := 16) (v := ?_) rfl (by kernel_rfl) (by kernel_rfl) (by kernel_rfl) (fun _ _ _ h => h) (Or.inl ⟨by rfl, ?_⟩) hHeld ?_
  rotate_left
  · intro w hSw
    have hSw1 := hSw
    clear hSw
    try dsimp only at hSw1
    go_simp
    try (with_reducible rfl)
  try simp only [Act.put, List.setIfInBounds_toArray, List.set_cons_zero, List.set_cons_succ, List.getElem_toArray, List.getElem_cons_zero, List.getElem_cons_succ]
  refine wpAnyH_take (i := 17) (v := ?_) rfl (by kernel_rfl) (by kernel_rfl) (by kernel_rfl) (fun _ _ _ h => h) (Or.inl ⟨by rfl, ?_⟩) hHeld ?_
  rotate_left
  · intro w hSw
    have hSw1 := hSw
    clear hSw
    have q0 := (HQ.out.2.2.2.2.1.step hSw1.out (by simp)).cell 0
    have q1 := (HQ.out.2.2.2.2.1.step hSw1.out (by simp)).cell 1
    have q2 := (HQ.out.2.2.2.2.1.step hSw1.out (by simp)).cell 2
    have q3 := (HQ.out.2.2.2.2.1.step hSw1.out (by simp)).cell 3
    have q4 := (HQ.out.2.2.2.2.1.step hSw1.out (by simp)).cell 4
    have q5 := (HQ.out.2.2.2.2.1.step hSw1.out (by simp)).cell 5
    have q6 := (HQ.out.2.2.2.2.1.step hSw1.out (by simp)).cell 6
    have ql := (HQ.out.2.2.2.2.1.step hSw1.out (by simp)).lt
    simp only [List.getElem?_toArray, List.getElem?_cons_zero, List.getElem?_cons_succ] at q0 q1 q2 q3 q4 q5 q6
    go_simp
    try (with_reducible rfl)
  try simp only [Act.put, List.setIfInBounds_toArray, List.set_cons_zero, List.set_cons_succ, List.getElem_toArray, List.getElem_cons_zero, List.getElem_cons_succ]
  refine wpAnyH_take (i := 18) (v := ?_) rfl (by kernel_rfl) (by kernel_rfl) (by kernel_rfl) (fun _ _ _ h => h) (Or.inl ⟨by rfl, ?_⟩) hHeld ?_
  rotate_left
  · intro w hSw
    have hSw1 := hSw
    clear hSw
    try dsimp only at hSw1
    go_simp
    try (with_reducible rfl)
  try simp only [Act.put, List.setIfInBounds_toArray, List.set_cons_zero, List.set_cons_succ, List.getElem_toArray, List.getElem_cons_zero, List.getElem_cons_succ]
  refine wpAnyH_take (i := 19) (v := ?_) rfl (by kernel_rfl) (by kernel_rfl) (by kernel_rfl) (fun _ _ _ h => h) (Or.inl ⟨by rfl, ?_⟩) hHeld ?_
  rotate_left
  · intro w hSw
    have hSw1 := hSw
    clear hSw
    try dsimp only at hSw1
    go_simp
    try (with_reducible rfl)
  try simp only [Act.put, List.setIfInBounds_toArray, List.set_cons_zero, List.set_cons_succ, List.getElem_toArray, List.getElem_cons_zero, List.getElem_cons_succ]
  refine wpAnyH_take (i := 20) (v := ?_) rfl (by kernel_rfl) (by kernel_rfl) (by kernel_rfl) (fun _ _ _ h => h) (Or.inl ⟨by rfl, ?_⟩) hHeld ?_
  rotate_left
  · intro w hSw
    have hSw1 := hSw
    clear hSw
    try dsimp only at hSw1
    go_simp
    try (with_reducible rfl)
  try simp only [Act.put, List.setIfInBounds_toArray, List.set_cons_zero, List.set_cons_succ, List.getElem_toArray, List.getElem_cons_zero, List.getElem_cons_succ]
  refine wpAnyH_take (i := 21) (v := ?_) rfl (by kernel_rfl) (by kernel_rfl) (by kernel_rfl) (fun _ _ _ h => h) (Or.inl ⟨by rfl, ?_⟩) hHeld ?_
  rotate_left
  · intro w hSw
    have hSw1 := hSw
    clear hSw
    try dsimp only at hSw1
    go_simp
    try (with_reducible rfl)
  try simp only [Act.put, List.setIfInBounds_toArray, List.set_cons_zero, List.set_cons_succ, List.getElem_toArray, List.getElem_cons_zero, List.getElem_cons_succ]
  refine wpAnyH_take (i := 22) (v := ?_) rfl (by kernel_rfl) (by kernel_rfl) (by kernel_rfl) (fun _ _ _ h => h) (Or.inl ⟨by rfl, ?_⟩) hHeld ?_
  rotate_left
  · intro w hSw
    have hSw1 := hSw
    clear hSw
    have q0 := (HQ.out.2.2.2.2.1.step hSw1.out (by simp)).cell 0
    have q1 := (HQ.out.2.2.2.2.1.step hSw1.out (by simp)).cell 1
    have q2 := (HQ.out.2.2.2.2.1.step hSw1.out (by simp)).cell 2
    have q3 := (HQ.out.2.2.2.2.1.step hSw1.out (by simp)).cell 3
    have q4 := (HQ.out.2.2.2.2.1.step hSw1.out (by simp)).cell 4
    have q5 := (HQ.out.2.2.2.2.1.step hSw1.out (by simp)).cell 5
    have q6 := (HQ.out.2.2.2.2.1.step hSw1.out (by simp)).cell 6
    have ql := (HQ.out.2.2.2.2.1.step hSw1.out (by simp)).lt
    simp only [List.getElem?_toArray, List.getElem?_cons_zero, List.getElem?_cons_succ] at q0 q1 q2 q3 q4 q5 q6
    go_simp
    try (with_reducible rfl)
  try simp only [Act.put, List.setIfInBounds_toArray, List.set_cons_zero, List.set_cons_succ, List.getElem_toArray, List.getElem_cons_zero, List.getElem_cons_succ]
  refine wpAnyH_take (i := 23) (v := ?_) rfl (by kernel_rfl) (by kernel_rfl) (by kernel_rfl) (fun _ _ _ h => h) (Or.inl ⟨by rfl, ?_⟩) hHeld ?_
  rotate_left
  · intro w hSw
    have hSw1 := hSw
    clear hSw
    try dsimp only at hSw1
    go_simp
    try (with_reducible rfl)
  try simp only [Act.put, List.setIfInBounds_toArray, List.set_cons_zero, List.set_cons_succ, List.getElem_toArray, List.getElem_cons_zero, List.getElem_cons_succ]
  refine wpAnyH_take (i := 24) (v := ?_) rfl (by kernel_rfl) (by kernel_rfl) (by kernel_rfl) (fun _ _ _ h => h) (Or.inl ⟨by rfl, ?_⟩) hHeld ?_
  rotate_left
  · intro w hSw
    have hSw1 := hSw
    clear hSw
    try dsimp only at hSw1
    go_simp
    try (with_reducible rfl)
  try simp only [Act.put, List.setIfInBounds_toArray, List.set_cons_zero, List.set_cons_succ, List.getElem_toArray, List.getElem_cons_zero, List.getElem_cons_succ]
  refine wpAnyH_take (i := 25) (v := ?_) rfl (by kernel_rfl) (by kernel_rfl) (by kernel_rfl) (fun _ _ _ h => h) (Or.inl ⟨by rfl, ?_⟩) hHeld ?_
  rotate_left
  · intro w hSw
    have hSw1 := hSw
    clear hSw
    try dsimp only at hSw1
    go_simp
    try (with_reducible rfl)
  try simp only [Act.put, List.setIfInBounds_toArray, List.set_cons_zero, List.set_cons_succ, List.getElem_toArray, List.getElem_cons_zero, List.getElem_cons_succ]
  refine wpAnyH_take (i := 26) (v := ?_) rfl (by kernel_rfl) (by kernel_rfl) (by kernel_rfl) (fun _ _ _ h => h) (Or.inl ⟨by rfl, ?_⟩) hHeld ?_
  rotate_left
  · intro w hSw
    have hSw1 := hSw
    clear hSw
    try dsimp only at hSw1
    go_simp
    try (with_reducible rfl)
  try simp only [Act.put, List.setIfInBounds_toArray, List.set_cons_zero, List.set_cons_succ, List.getElem_toArray, List.getElem_cons_zero, List.getElem_cons_succ]
  refine wpAnyH_take (i := 27) (v := ?_) rfl (by kernel_rfl) (by kernel_rfl) (by kernel_rfl) (fun _ _ _ h => h) (Or.inl ⟨by rfl, ?_⟩) hHeld ?_
  rotate_left
  · intro w hSw
    have hSw1 := hSw
    clear hSw
    try dsimp only at hSw1
    go_simp
    try (with_reducible rfl)
  try simp only [Act.put, List.setIfInBounds_toArray, List.set_cons_zero, List.set_cons_succ, List.getElem_toArray, List.getElem_cons_zero, List.getElem_cons_succ]
  refine wpAnyH_done (by kernel_rfl) ?_ _
  obtain ⟨Q2, hQ2⟩ : ∃ V, V = Q.drew := ⟨_, rfl⟩
  have HS2 : Hid (Step [] [] Q Q2) := by
    rw [hQ2]
    exact (Step.refl [] Q).drew
  rw [← hQ2]
  clear hQ2
  go_upto_region 11 with fail
  refine wp_region_held_drew (S := fun W => Hid (Step [] [] Q2 W)) (by kernel_rfl) (Lib.hid ((Step.refl [] Q2).drew)) (fun hHeld => ?_)
  refine wpAnyH_take (i := 0) (v := ?_) rfl (by kernel_rfl) (by kernel_rfl) (by kernel_rfl) (fun _ _ _ h => h) (Or.inl ⟨by rfl, ?_⟩) hHeld ?_
  rotate_left
  · intro w hSw
    have hSw1 := hSw
    clear hSw
    try dsimp only at hSw1
    go_simp
    try (with_reducible rfl)
  try simp only [Act.put, List.setIfInBounds_toArray, List.set_cons_zero, List.set_cons_succ, List.getElem_toArray, List.getElem_cons_zero, List.getElem_cons_succ]
  refine wpAnyH_take (i := 1) (v := ?_) rfl (by kernel_rfl) (by kernel_rfl) (by kernel_rfl) (fun _ _ _ h => h) (Or.inl ⟨by rfl, ?_⟩) hHeld ?_
  rotate_left
  · intro w hSw
    have hSw1 := hSw
    clear hSw
    try dsimp only at hSw1
    go_simp
    try (with_reducible rfl)
  try simp only [Act.put, List.setIfInBounds_toArray, List.set_cons_zero, List.set_cons_succ, List.getElem_toArray, List.getElem_cons_zero, List.getElem_cons_succ]
  refine wpAnyH_take (i := 2) (v := undef) rfl (by kernel_rfl) (by kernel_rfl) (by kernel_rfl) (fun _ _ _ h => h) (Or.inr ⟨by kernel_rfl, rfl⟩) hHeld ?_
  try simp only [Act.put, List.setIfInBounds_toArray, List.set_cons_zero, List.set_cons_succ, List.getElem_toArray, List.getElem_cons_zero, List.getElem_cons_succ]
  refine wpAnyH_take (i := 3) (v := undef) rfl (by kernel_rfl) (by kernel_rfl) (by kernel_rfl) (fun _ _ _ h => h) (Or.inr ⟨by kernel_rfl, rfl⟩) hHeld ?_
  try simp only [Act.put, List.setIfInBounds_toArray, List.set_cons_zero, List.set_cons_succ, List.getElem_toArray, List.getElem_cons_zero, List.getElem_cons_succ]
  refine wpAnyH_take (i := 4) (v := undef) rfl (by kernel_rfl) (by kernel_rfl) (by kernel_rfl) (fun _ _ _ h => h) (Or.inr ⟨by kernel_rfl, rfl⟩) hHeld ?_
  try simp only [Act.put, List.setIfInBounds_toArray, List.set_cons_zero, List.set_cons_succ, List.getElem_toArray, List.getElem_cons_zero, List.getElem_cons_succ]
  refine wpAnyH_take (i := 5) (v := undef) rfl (by kernel_rfl) (by kernel_rfl) (by kernel_rfl) (fun _ _ _ h => h) (Or.inr ⟨by kernel_rfl, rfl⟩) hHeld ?_
  try simp only [Act.put, List.setIfInBounds_toArray, List.set_cons_zero, List.set_cons_succ, List.getElem_toArray, List.getElem_cons_zero, List.getElem_cons_succ]
  refine wpAnyH_take (i := 6) (v := ?_) rfl (by kernel_rfl) (by kernel_rfl) (by kernel_rfl) (fun _ _ _ h => h) (Or.inl ⟨by rfl, ?_⟩) hHeld ?_
  rotate_left
  · intro w hSw
    have hSw1 := hSw
    clear hSw
    try dsimp only at hSw1
    go_simp
    try (with_reducible rfl)
  try simp only [Act.put, List.setIfInBounds_toArray, List.set_cons_zero, List.set_cons_succ, List.getElem_toArray, List.getElem_cons_zero, List.getElem_cons_succ]
  refine wpAnyH_take (i := 7) (v := ?_) rfl (by kernel_rfl) (by kernel_rfl) (by kernel_rfl) (fun _ _ _ h => h) (Or.inl ⟨by rfl, ?_⟩) hHeld ?_
  rotate_left
  · intro w hSw
    have hSw1 := hSw
    clear hSw
    try dsimp only at hSw1
    go_simp
    try (with_reducible rfl)
  try simp only [Act.put, List.setIfInBounds_toArray, List.set_cons_zero, List.set_cons_succ, List.getElem_toArray, List.getElem_cons_zero, List.getElem_cons_succ]
  refine wpAnyH_done (by kernel_rfl) ?_ _
  go_wp2_with fail
  exact bodyPost_ret (results_tmp rfl _ _ _) rfl ⟨rfl, (HQ.out.2.1.trans HS2.out).drew⟩

set_option maxHeartbeats 8000000 in
theorem kinds10_4 (x : Rw) (a : Option Addr) (cap : Nat) (w : World) (hik : x.kind = 4) (hr : Rd w 3 a x.es.length (entcs x.es)) (hl : x.es.length ≤ 4398046511104) (hd : x.data.length ≤ 140737488351232) :
    Calls Try.prog 7 #[rwV x (.slice a x.es.length cap)] w fun e w' => e = .returned (.bool true) ∧ Step [] [] w w' := by
  have k3 : (x.kind == 3) = false := by rw [hik]; rfl
  have k5 : (x.kind == 5) = false := by rw [hik]; rfl
  have HKX := Lib.hid hik
  have HK : Hid (isKind x.kind = true) := Lib.hid (by rw [hik]; rfl)
  clear hik
  have H0 : Hid (Rd (w.alloc (.cells (rwc x (.slice a x.es.length cap)).toArray 24)) 3 a x.es.length (entcs x.es) ∧ Step [] [] w (w.alloc (.cells (rwc x (.slice a x.es.length cap)).toArray 24)) ∧ Blk (w.alloc (.cells (rwc x (.slice a x.es.length cap)).toArray 24)) w.heap.size 24 (rwc x (.slice a x.es.length cap)).toArray) := ⟨hr.alloc _, (Step.refl [] w).alloc _, Blk.new w _ _⟩
  have HL0 := Lib.hid (And.intro hl (And.intro (clean_len x) hd))
  clear hr hl hd
  go_enter Try.func7, Try.ntmps7
  go_wp2_with fail
  refine (awake10_true _).mono ?_
  rintro e w1 ⟨rfl, k1⟩
  obtain ⟨b, hb⟩ : ∃ b, b = w.heap.size := ⟨_, rfl⟩
  have H1 : Hid (Rd w1 3 a x.es.length (entcs x.es) ∧ Step [] [] w w1 ∧ Blk w1 b 24 (rwc x (.slice a x.es.length cap)).toArray) := by
    rw [hb]
    exact ⟨H0.out.1.step0 k1, H0.out.2.1.trans k1, H0.out.2.2.step k1 (by simp)⟩
  rw [← hb]
  clear k1 hb H0
  have ra := H1.out.2.2.rw
  have rl := H1.out.2.2.lt
  go_wp2_with fail
  refine (of_any x a cap w1 HK.out H1.out.1 HL0.out.1).mono ?_
  rintro e w2 ⟨m, rfl, hm, k2⟩
  obtain ⟨y, hy⟩ : ∃ y, y = cleanL x := ⟨_, rfl⟩
  have HCL : Hid ((cleanL y = y ∧ isKind y.kind = true) ∧ (y.es.length ≤ 4398046511104 ∧ True) ∧ y = cleanL x) := by
    rw [hy]
    exact ⟨⟨(clean_clean x HK.out).1, by rw [(clean_clean x HK.out).2]; exact HK.out⟩, ⟨Nat.le_trans HL0.out.2.1 HL0.out.1, trivial⟩, rfl⟩
  have hyk : y.kind = 4 := by rw [hy, (clean_clean x HK.out).2]; exact HKX.out
  rw [← hy] at hm
  clear hy
  have hno := hm.noes
  obtain ⟨ay, capy, hry, h5⟩ := hm.open_
  have H2 : Hid (Rd w2 3 a x.es.length (entcs x.es) ∧ Step [] [] w w2 ∧ Blk w2 b 24 (rwc x (.slice a x.es.length cap)).toArray) := ⟨H1.out.1.step0 k2, H1.out.2.1.trans k2, H1.out.2.2.step k2 (by simp)⟩
  have HY : Hid (y.kind = 4 ∧ y.es = []) := Lib.hid ⟨hyk, hno (by omega)⟩
  have hm' : m = .iface 62 (.agg #[.int .i64 y.src, .int .i64 y.term, .int .i64 y.index, .int .i64 y.round, .bool y.yes]) := by
    rcases h5 with ⟨h, e⟩ | ⟨h, e⟩ | ⟨h, e⟩ | ⟨h, e⟩ | ⟨h, e⟩ <;> first | exact e | (exfalso; omega)
  subst hm'
  clear ra rl k2 H1 hm hno hry h5 hyk
  have ra := H2.out.2.2.rw
  have rl := H2.out.2.2.lt
  go_wp2_with fail
  refine (isApp_no _ w2 (ta43 _)).mono ?_
  rintro e w3 ⟨rfl, k3⟩
  unfold appZ
  have H3 : Hid (Rd w3 3 a x.es.length (entcs x.es) ∧ Step [] [] w w3 ∧ Blk w3 b 24 (rwc x (.slice a x.es.length cap)).toArray ∧ Step [] [] w2 w3) := ⟨H2.out.1.step0 k3, H2.out.2.1.trans k3, H2.out.2.2.step k3 (by simp), k3⟩
  clear k3 ra rl
  go_wp2_with fail
  obtain ⟨b5, hb5⟩ : ∃ b, b = w3.heap.size := ⟨_, rfl⟩
  obtain ⟨V3, hV3⟩ : ∃ V, V = w3.alloc (.cells #[.int .i64 0, .int .i64 0, .int .i64 0, .int .i64 0, .int .i64 0, .int .i64 0, .slice none 0 0] 47) := ⟨_, rfl⟩
  have H4 : Hid (Rd V3 3 a x.es.length (entcs x.es) ∧ Step [] [] w V3 ∧ Blk V3 b 24 (rwc x (.slice a x.es.length cap)).toArray ∧ Step [] [] w2 V3 ∧ Blk V3 b5 47 #[.int .i64 0, .int .i64 0, .int .i64 0, .int .i64 0, .int .i64 0, .int .i64 0, .slice none 0 0]) := by
    rw [hV3, hb5]
    exact ⟨H3.out.1.alloc _, H3.out.2.1.alloc _, H3.out.2.2.1.alloc _, H3.out.2.2.2.alloc _, Blk.new _ _ _⟩
  rw [← hV3, ← hb5]
  clear hV3 hb5 H3
  refine (must_no _ V3 (fun W => mustShot_no _ W _ (fun X _ => tp4 _ X))).mono ?_
  rintro e w4 ⟨rfl, k4⟩
  unfold shotZ
  have H5 : Hid (Rd w4 3 a x.es.length (entcs x.es) ∧ Step [] [] w w4 ∧ Blk w4 b 24 (rwc x (.slice a x.es.length cap)).toArray ∧ Step [] [] w2 w4 ∧ Blk w4 b5 47 #[.int .i64 0, .int .i64 0, .int .i64 0, .int .i64 0, .int .i64 0, .int .i64 0, .slice none 0 0]) := ⟨H4.out.1.step0 k4, H4.out.2.1.trans k4, H4.out.2.2.1.step k4 (by simp), H4.out.2.2.2.1.trans k4, H4.out.2.2.2.2.step k4 (by simp)⟩
  clear k4 H4
  obtain ⟨b7, hb7⟩ : ∃ b, b = w4.heap.size := ⟨_, rfl⟩
  obtain ⟨V4, hV4⟩ : ∃ V, V = w4.alloc (.cells #[.int .i64 0, .int .i64 0, .int .i64 0, .int .i64 0, .int .i64 0, .string ⟨#[]⟩] 51) := ⟨_, rfl⟩
  have H6 : Hid (Rd V4 3 a x.es.length (entcs x.es) ∧ Step [] [] w V4 ∧ Blk V4 b 24 (rwc x (.slice a x.es.length cap)).toArray ∧ Step [] [] w2 V4 ∧ Blk V4 b5 47 #[.int .i64 0, .int .i64 0, .int .i64 0, .int .i64 0, .int .i64 0, .int .i64 0, .slice none 0 0] ∧ Blk V4 b7 51 #[.int .i64 0, .int .i64 0, .int .i64 0, .int .i64 0, .int .i64 0, .string ⟨#[]⟩]) := by
    rw [hV4, hb7]
    exact ⟨H5.out.1.alloc _, H5.out.2.1.alloc _, H5.out.2.2.1.alloc _, H5.out.2.2.2.1.alloc _, H5.out.2.2.2.2.alloc _, Blk.new _ _ _⟩
  go_upto_region 6 with fail
  rw [← hV4, ← hb7]
  clear hV4 hb7 H5
  have ra := H6.out.2.2.1.rw
  have rl := H6.out.2.2.1.lt
  go_wp2_with fail
  refine (refClean_any x a cap V4 H6.out.1 HL0.out.1).mono ?_
  rintro e w5 ⟨a3, cap3, rfl, r3, k5⟩
  rw [HK.out]
  rw [← HCL.out.2.2] at r3 ⊢
  clear ra rl
  obtain ⟨b9, hb9⟩ : ∃ b, b = w5.heap.size := ⟨_, rfl⟩
  obtain ⟨Q, hQ⟩ : ∃ V, V = w5.alloc (.cells (rwc y (.slice a3 y.es.length cap3)).toArray 24) := ⟨_, rfl⟩
  have HQ : Hid (Rd Q 3 a3 y.es.length (entcs y.es) ∧ Step [] [] w Q ∧ Blk Q b 24 (rwc x (.slice a x.es.length cap)).toArray ∧ Step [] [] w2 Q ∧ Blk Q b5 47 #[.int .i64 0, .int .i64 0, .int .i64 0, .int .i64 0, .int .i64 0, .int .i64 0, .slice none 0 0] ∧ Blk Q b7 51 #[.int .i64 0, .int .i64 0, .int .i64 0, .int .i64 0, .int .i64 0, .string ⟨#[]⟩] ∧ Blk Q b9 24 (rwc y (.slice a3 y.es.length cap3)).toArray) := by
    rw [hQ, hb9]
    exact ⟨r3.alloc _, (H6.out.2.1.trans k5).alloc _, (H6.out.2.2.1.step k5 (by simp)).alloc _, (H6.out.2.2.2.1.trans k5).alloc _, (H6.out.2.2.2.2.1.step k5 (by simp)).alloc _, (H6.out.2.2.2.2.2.step k5 (by simp)).alloc _, Blk.new _ _ _⟩
  clear r3 k5 H6
  go_upto_region 7 with fail
  rw [show w5.alloc (.cells #[.int .i64 y.kind, .int .i64 y.src, .int .i64 y.term, .int .i64 y.index, .int .i64 y.last, .int .i64 y.commit, .int .i64 y.round, .bool y.yes, .slice a3 y.es.length cap3, .string ⟨y.data.toArray⟩] 24) = Q from hQ.symm, ← hb9]
  clear hQ hb9
  have ra := HQ.out.2.2.1.rw
  have rl := HQ.out.2.2.1.lt
  go_upto_region 9 with fail
  clear ra rl
  refine wp_region_held_drew (S := fun W => Hid (Step [] [] Q W)) (by kernel_rfl) (Lib.hid ((Step.refl [] Q).drew)) (fun hHeld => ?_)
  refine wpAnyH_take (i := 0) (v := ?_) rfl (by kernel_rfl) (by kernel_rfl) (by kernel_rfl) (fun _ _ _ h => h) (Or.inl ⟨by rfl, ?_⟩) hHeld ?_
  rotate_left
  · intro w hSw
    have hSw1 := hSw
    clear hSw
    try dsimp only at hSw1
    go_simp
    try (with_reducible rfl)
  try simp only [Act.put, List.setIfInBounds_toArray, List.set_cons_zero, List.set_cons_succ, List.getElem_toArray, List.getElem_cons_zero, List.getElem_cons_succ]
  refine wpAnyH_take (i := 1) (v := ?_) rfl (by kernel_rfl) (by kernel_rfl) (by kernel_rfl) (fun _ _ _ h => h) (Or.inl ⟨by rfl, ?_⟩) hHeld ?_
  rotate_left
  · intro w hSw
    have hSw1 := hSw
    clear hSw
    try dsimp only at hSw1
    go_simp
    try (with_reducible rfl)
  try simp only [Act.put, List.setIfInBounds_toArray, List.set_cons_zero, List.set_cons_succ, List.getElem_toArray, List.getElem_cons_zero, List.getElem_cons_succ]
  refine wpAnyH_take (i := 2) (v := undef) rfl (by kernel_rfl) (by kernel_rfl) (by kernel_rfl) (fun _ _ _ h => h) (Or.inr ⟨by kernel_rfl, rfl⟩) hHeld ?_
  try simp only [Act.put, List.setIfInBounds_toArray, List.set_cons_zero, List.set_cons_succ, List.getElem_toArray, List.getElem_cons_zero, List.getElem_cons_succ]
  refine wpAnyH_take (i := 3) (v := undef) rfl (by kernel_rfl) (by kernel_rfl) (by kernel_rfl) (fun _ _ _ h => h) (Or.inr ⟨by kernel_rfl, rfl⟩) hHeld ?_
  try simp only [Act.put, List.setIfInBounds_toArray, List.set_cons_zero, List.set_cons_succ, List.getElem_toArray, List.getElem_cons_zero, List.getElem_cons_succ]
  refine wpAnyH_take (i := 4) (v := undef) rfl (by kernel_rfl) (by kernel_rfl) (by kernel_rfl) (fun _ _ _ h => h) (Or.inr ⟨by kernel_rfl, rfl⟩) hHeld ?_
  try simp only [Act.put, List.setIfInBounds_toArray, List.set_cons_zero, List.set_cons_succ, List.getElem_toArray, List.getElem_cons_zero, List.getElem_cons_succ]
  refine wpAnyH_take (i := 5) (v := undef) rfl (by kernel_rfl) (by kernel_rfl) (by kernel_rfl) (fun _ _ _ h => h) (Or.inr ⟨by kernel_rfl, rfl⟩) hHeld ?_
  try simp only [Act.put, List.setIfInBounds_toArray, List.set_cons_zero, List.set_cons_succ, List.getElem_toArray, List.getElem_cons_zero, List.getElem_cons_succ]
  refine wpAnyH_take (i := 6) (v := undef) rfl (by kernel_rfl) (by kernel_rfl) (by kernel_rfl) (fun _ _ _ h => h) (Or.inr ⟨by kernel_rfl, rfl⟩) hHeld ?_
  try simp only [Act.put, List.setIfInBounds_toArray, List.set_cons_zero, List.set_cons_succ, List.getElem_toArray, List.getElem_cons_zero, List.getElem_cons_succ]
  refine wpAnyH_take (i := 7) (v := ?_) rfl (by kernel_rfl) (by kernel_rfl) (by kernel_rfl) (fun _ _ _ h => h) (Or.inl ⟨by rfl, ?_⟩) hHeld ?_
  rotate_left
  · intro w hSw
    have hSw1 := hSw
    clear hSw
    try dsimp only at hSw1
    go_simp
    try (with_reducible rfl)
  try simp only [Act.put, List.setIfInBounds_toArray, List.set_cons_zero, List.set_cons_succ, List.getElem_toArray, List.getElem_cons_zero, List.getElem_cons_succ]
  refine wpAnyH_take (i := 8) (v := ?_) rfl (by kernel_rfl) (by kernel_rfl) (by kernel_rfl) (fun _ _ _ h => h) (Or.inl ⟨by rfl, ?_⟩) hHeld ?_
  rotate_left
  · intro w hSw
    have hSw1 := hSw
    clear hSw
    try dsimp only at hSw1
    go_simp
    try (with_reducible rfl)
  try simp only [Act.put, List.setIfInBounds_toArray, List.set_cons_zero, List.set_cons_succ, List.getElem_toArray, List.getElem_cons_zero, List.getElem_cons_succ]
  refine wpAnyH_take (i := 9) (v := ?_) rfl (by kernel_rfl) (by kernel_rfl) (by kernel_rfl) (fun _ _ _ h => h) (Or.inl ⟨by rfl, ?_⟩) hHeld ?_
  rotate_left
  · intro w hSw
    have hSw1 := hSw
    clear hSw
    try dsimp only at hSw1
    go_simp
    try (with_reducible rfl)
  try simp only [Act.put, List.setIfInBounds_toArray, List.set_cons_zero, List.set_cons_succ, List.getElem_toArray, List.getElem_cons_zero, List.getElem_cons_succ]
  refine wpAnyH_take (i := 10) (v := ?_) rfl (by kernel_rfl) (by kernel_rfl) (by kernel_rfl) (fun _ _ _ h => h) (Or.inl ⟨by rfl, ?_⟩) hHeld ?_
  rotate_left
  · intro w hSw
    have hSw1 := hSw
    clear hSw
    try dsimp only at hSw1
    go_simp
    try (with_reducible rfl)
  try simp only [Act.put, List.setIfInBounds_toArray, List.set_cons_zero, List.set_cons_succ, List.getElem_toArray, List.getElem_cons_zero, List.getElem_cons_succ]
  refine wpAnyH_take (i := 11) (v := ?_) rfl (by kernel_rfl) (by kernel_rfl) (by kernel_rfl) (fun _ _ _ h => h) (Or.inl ⟨by rfl, ?_⟩) hHeld ?_
  rotate_left
  · intro w hSw
    have hSw1 := hSw
    clear hSw
    try dsimp only at hSw1
    go_simp
    try (with_reducible rfl)
  try simp only [Act.put, List.setIfInBounds_toArray, List.set_cons_zero, List.set_cons_succ, List.getElem_toArray, List.getElem_cons_zero, List.getElem_cons_succ]
  refine wpAnyH_take (i := 12) (v := ?_) rfl (by kernel_rfl) (by kernel_rfl) (by kernel_rfl) (fun _ _ _ h => h) (Or.inl ⟨by rfl, ?_⟩) hHeld ?_
  rotate_left
  · intro w hSw
    have hSw1 := hSw
    clear hSw
    try dsimp only at hSw1
    go_simp
    try (with_reducible rfl)
  try simp only [Act.put, List.setIfInBounds_toArray, List.set_cons_zero, List.set_cons_succ, List.getElem_toArray, List.getElem_cons_zero, List.getElem_cons_succ]
  refine wpAnyH_take (i := 13) (v := ?_) rfl (by kernel_rfl) (by kernel_rfl) (by kernel_rfl) (fun _ _ _ h => h) (Or.inl ⟨by rfl, ?_⟩) hHeld ?_
  rotate_left
  · intro w hSw
    have hSw1 := hSw
    clear hSw
    have q0 := (HQ.out.2.2.2.2.1.step hSw1.out (by simp)).cell 0
    have q1 := (HQ.out.2.2.2.2.1.step hSw1.out (by simp)).cell 1
    have q2 := (HQ.out.2.2.2.2.1.step hSw1.out (by simp)).cell 2
    have q3 := (HQ.out.2.2.2.2.1.step hSw1.out (by simp)).cell 3
    have q4 := (HQ.out.2.2.2.2.1.step hSw1.out (by simp)).cell 4
    have q5 := (HQ.out.2.2.2.2.1.step hSw1.out (by simp)).cell 5
    have q6 := (HQ.out.2.2.2.2.1.step hSw1.out (by simp)).cell 6
    have ql := (HQ.out.2.2.2.2.1.step hSw1.out (by simp)).lt
    simp only [List.getElem?_toArray, List.getElem?_cons_zero, List.getElem?_cons_succ] at q0 q1 q2 q3 q4 q5 q6
    go_simp
    try (with_reducible rfl)
  try simp only [Act.put, List.setIfInBounds_toArray, List.set_cons_zero, List.set_cons_succ, List.getElem_toArray, List.getElem_cons_zero, List.getElem_cons_succ]
  refine wpAnyH_take (i := 14) (v := ?_) rfl (by kernel_rfl) (by kernel_rfl) (by kernel_rfl) (fun _ _ _ h => h) (Or.inl ⟨by rfl, ?_⟩) hHeld ?_
  rotate_left
  · intro w hSw
    have hSw1 := hSw
    clear hSw
    try dsimp only at hSw1
    go_simp
    try (with_reducible rfl)
  try simp only [Act.put, List.setIfInBounds_toArray, List.set_cons_zero, List.set_cons_succ, List.getElem_toArray, List.getElem_cons_zero, List.getElem_cons_succ]
  refine wpAnyH_take (i := 15) (v := ?_) rfl (by kernel_rfl) (by kernel_rfl) (by kernel_rfl) (fun _ _ _ h => h) (Or.inl ⟨by rfl, ?_⟩) hHeld ?_
  rotate_left
  · intro w hSw
    have hSw1 := hSw
    clear hSw
    try dsimp only at hSw1
    go_simp
    try (with_reducible rfl)
  try simp only [Act.put, List.setIfInBounds_toArray, List.set_cons_zero, List.set_cons_succ, List.getElem_toArray, List.getElem_cons_zero, List.getElem_cons_succ]
  refine wpAnyH_take (i := 16) (v := ?_) rfl (by kernel_rfl) (by kernel_rfl) (by kernel_rfl) (fun _ _ _ h => h) (Or.inl ⟨by rfl, ?_⟩) hHeld ?_
  rotate_left
  · intro w hSw
    have hSw1 := hSw
    clear hSw
    try dsimp only at hSw1
    go_simp
    try (with_reducible rfl)
  try simp only [Act.put, List.setIfInBounds_toArray, List.set_cons_zero, List.set_cons_succ, List.getElem_toArray, List.getElem_cons_zero, List.getElem_cons_succ]
  refine wpAnyH_take (i := 17) (v := ?_) rfl (by kernel_rfl) (by kernel_rfl) (by kernel_rfl) (fun _ _ _ h => h) (Or.inl ⟨by rfl, ?_⟩) hHeld ?_
  rotate_left
  · intro w hSw
    have hSw1 := hSw
    clear hSw
    have q0 := (HQ.out.2.2.2.2.1.step hSw1.out (by simp)).cell 0
    have q1 := (HQ.out.2.2.2.2.1.step hSw1.out (by simp)).cell 1
    have q2 := (HQ.out.2.2.2.2.1.step hSw1.out (by simp)).cell 2
    have q3 := (HQ.out.2.2.2.2.1.step hSw1.out (by simp)).cell 3
    have q4 := (HQ.out.2.2.2.2.1.step hSw1.out (by simp)).cell 4
    have q5 := (HQ.out.2.2.2.2.1.step hSw1.out (by simp)).cell 5
    have q6 := (HQ.out.2.2.2.2.1.step hSw1.out (by simp)).cell 6
    have ql := (HQ.out.2.2.2.2.1.step hSw1.out (by simp)).lt
    simp only [List.getElem?_toArray, List.getElem?_cons_zero, List.getElem?_cons_succ] at q0 q1 q2 q3 q4 q5 q6
    go_simp
    try (with_reducible rfl)
  try simp only [Act.put, List.setIfInBounds_toArray, List.set_cons_zero, List.set_cons_succ, List.getElem_toArray, List.getElem_cons_zero, List.getElem_cons_succ]
  refine wpAnyH_take (i := 18) (v := ?_) rfl (by kernel_rfl) (by kernel_rfl) (by kernel_rfl) (fun _ _ _ h => h) (Or.inl ⟨by rfl, ?_⟩) hHeld ?_
  rotate_left
  · intro w hSw
    have hSw1 := hSw
    clear hSw
    try dsimp only at hSw1
    go_simp
    try (with_reducible rfl)
  try simp only [Act.put, List.setIfInBounds_toArray, List.set_cons_zero, List.set_cons_succ, List.getElem_toArray, List.getElem_cons_zero, List.getElem_cons_succ]
  refine wpAnyH_take (i := 19) (v := ?_) rfl (by kernel_rfl) (by kernel_rfl) (by kernel_rfl) (fun _ _ _ h => h) (Or.inl ⟨by rfl, ?_⟩) hHeld ?_
  rotate_left
  · intro w hSw
    have hSw1 := hSw
    clear hSw
    try dsimp only at hSw1
    go_simp
    try (with_reducible rfl)
  try simp only [Act.put, List.setIfInBounds_toArray, List.set_cons_zero, List.set_cons_succ, List.getElem_toArray, List.getElem_cons_zero, List.getElem_cons_succ]
  refine wpAnyH_take (i := 20) (v := ?_) rfl (by kernel_rfl) (by kernel_rfl) (by kernel_rfl) (fun _ _ _ h => h) (Or.inl ⟨by rfl, ?_⟩) hHeld ?_
  rotate_left
  · intro w hSw
    have hSw1 := hSw
    clear hSw
    try dsimp only at hSw1
    go_simp
    try (with_reducible rfl)
  try simp only [Act.put, List.setIfInBounds_toArray, List.set_cons_zero, List.set_cons_succ, List.getElem_toArray, List.getElem_cons_zero, List.getElem_cons_succ]
  refine wpAnyH_take (i := 21) (v := ?_) rfl (by kernel_rfl) (by kernel_rfl) (by kernel_rfl) (fun _ _ _ h => h) (Or.inl ⟨by rfl, ?_⟩) hHeld ?_
  rotate_left
  · intro w hSw
    have hSw1 := hSw
    clear hSw
    try dsimp only at hSw1
    go_simp
    try (with_reducible rfl)
  try simp only [Act.put, List.setIfInBounds_toArray, List.set_cons_zero, List.set_cons_succ, List.getElem_toArray, List.getElem_cons_zero, List.getElem_cons_succ]
  refine wpAnyH_take (i := 22) (v := ?_) rfl (by kernel_rfl) (by kernel_rfl) (by kernel_rfl) (fun _ _ _ h => h) (Or.inl ⟨by rfl, ?_⟩) hHeld ?_
  rotate_left
  · intro w hSw
    have hSw1 := hSw
    clear hSw
    have q0 := (HQ.out.2.2.2.2.1.step hSw1.out (by simp)).cell 0
    have q1 := (HQ.out.2.2.2.2.1.step hSw1.out (by simp)).cell 1
    have q2 := (HQ.out.2.2.2.2.1.step hSw1.out (by simp)).cell 2
    have q3 := (HQ.out.2.2.2.2.1.step hSw1.out (by simp)).cell 3
    have q4 := (HQ.out.2.2.2.2.1.step hSw1.out (by simp)).cell 4
    have q5 := (HQ.out.2.2.2.2.1.step hSw1.out (by simp)).cell 5
    have q6 := (HQ.out.2.2.2.2.1.step hSw1.out (by simp)).cell 6
    have ql := (HQ.out.2.2.2.2.1.step hSw1.out (by simp)).lt
    simp only [List.getElem?_toArray, List.getElem?_cons_zero, List.getElem?_cons_succ] at q0 q1 q2 q3 q4 q5 q6
    go_simp
    try (with_reducible rfl)
  try simp only [Act.put, List.setIfInBounds_toArray, List.set_cons_zero, List.set_cons_succ, List.getElem_toArray, List.getElem_cons_zero, List.getElem_cons_succ]
  refine wpAnyH_take (i := 23) (v := ?_) rfl (by kernel_rfl) (by kernel_rfl) (by kernel_rfl) (fun _ _ _ h => h) (Or.inl ⟨by rfl, ?_⟩) hHeld ?_
  rotate_left
  · intro w hSw
    have hSw1 := hSw
    clear hSw
    try dsimp only at hSw1
    go_simp
    try (with_reducible rfl)
  try simp only [Act.put, List.setIfInBounds_toArray, List.set_cons_zero, List.set_cons_succ, List.getElem_toArray, List.getElem_cons_zero, List.getElem_cons_succ]
  refine wpAnyH_take (i := 24) (v := ?_) rfl (by kernel_rfl) (by kernel_rfl) (by kernel_rfl) (fun _ _ _ h => h) (Or.inl ⟨by rfl, ?_⟩) hHeld ?_
  rotate_left
  · intro w hSw
    have hSw1 := hSw
    clear hSw
    try dsimp only at hSw1
    go_simp
    try (with_reducible rfl)
  try simp only [Act.put, List.setIfInBounds_toArray, List.set_cons_zero, List.set_cons_succ, List.getElem_toArray, List.getElem_cons_zero, List.getElem_cons_succ]
  refine wpAnyH_take (i := 25) (v := ?_) rfl (by kernel_rfl) (by kernel_rfl) (by kernel_rfl) (fun _ _ _ h => h) (Or.inl ⟨by rfl, ?_⟩) hHeld ?_
  rotate_left
  · intro w hSw
    have hSw1 := hSw
    clear hSw
    try dsimp only at hSw1
    go_simp
    try (with_reducible rfl)
  try simp only [Act.put, List.setIfInBounds_toArray, List.set_cons_zero, List.set_cons_succ, List.getElem_toArray, List.getElem_cons_zero, List.getElem_cons_succ]
  refine wpAnyH_take (i := 26) (v := ?_) rfl (by kernel_rfl) (by kernel_rfl) (by kernel_rfl) (fun _ _ _ h => h) (Or.inl ⟨by rfl, ?_⟩) hHeld ?_
  rotate_left
  · intro w hSw
    have hSw1 := hSw
    clear hSw
    try dsimp only at hSw1
    go_simp
    try (with_reducible rfl)
  try simp only [Act.put, List.setIfInBounds_toArray, List.set_cons_zero, List.set_cons_succ, List.getElem_toArray, List.getElem_cons_zero, List.getElem_cons_succ]
  refine wpAnyH_take (i := 27) (v := ?_) rfl (by kernel_rfl) (by kernel_rfl) (by kernel_rfl) (fun _ _ _ h => h) (Or.inl ⟨by rfl, ?_⟩) hHeld ?_
  rotate_left
  · intro w hSw
    have hSw1 := hSw
    clear hSw
    try dsimp only at hSw1
    go_simp
    try (with_reducible rfl)
  try simp only [Act.put, List.setIfInBounds_toArray, List.set_cons_zero, List.set_cons_succ, List.getElem_toArray, List.getElem_cons_zero, List.getElem_cons_succ]
  refine wpAnyH_done (by kernel_rfl) ?_ _
  obtain ⟨Q2, hQ2⟩ : ∃ V, V = Q.drew := ⟨_, rfl⟩
  have HS2 : Hid (Step [] [] Q Q2) := by
    rw [hQ2]
    exact (Step.refl [] Q).drew
  rw [← hQ2]
  clear hQ2
  go_upto_region 11 with fail
  refine wp_region_held_drew (S := fun W => Hid (Step [] [] Q2 W)) (by kernel_rfl) (Lib.hid ((Step.refl [] Q2).drew)) (fun hHeld => ?_)
  refine wpAnyH_take (i := 0) (v := ?_) rfl (by kernel_rfl) (by kernel_rfl) (by kernel_rfl) (fun _ _ _ h => h) (Or.inl ⟨by rfl, ?_⟩) hHeld ?_
  rotate_left
  · intro w hSw
    have hSw1 := hSw
    clear hSw
    try dsimp only at hSw1
    go_simp
    try (with_reducible rfl)
  try simp only [Act.put, List.setIfInBounds_toArray, List.set_cons_zero, List.set_cons_succ, List.getElem_toArray, List.getElem_cons_zero, List.getElem_cons_succ]
  refine wpAnyH_take (i := 1) (v := ?_) rfl (by kernel_rfl) (by kernel_rfl) (by kernel_rfl) (fun _ _ _ h => h) (Or.inl ⟨by rfl, ?_⟩) hHeld ?_
  rotate_left
  · intro w hSw
    have hSw1 := hSw
    clear hSw
    try dsimp only at hSw1
    go_simp
    try (with_reducible rfl)
  try simp only [Act.put, List.setIfInBounds_toArray, List.set_cons_zero, List.set_cons_succ, List.getElem_toArray, List.getElem_cons_zero, List.getElem_cons_succ]
  refine wpAnyH_take (i := 2) (v := undef) rfl (by kernel_rfl) (by kernel_rfl) (by kernel_rfl) (fun _ _ _ h => h) (Or.inr ⟨by kernel_rfl, rfl⟩) hHeld ?_
  try simp only [Act.put, List.setIfInBounds_toArray, List.set_cons_zero, List.set_cons_succ, List.getElem_toArray, List.getElem_cons_zero, List.getElem_cons_succ]
  refine wpAnyH_take (i := 3) (v := undef) rfl (by kernel_rfl) (by kernel_rfl) (by kernel_rfl) (fun _ _ _ h => h) (Or.inr ⟨by kernel_rfl, rfl⟩) hHeld ?_
  try simp only [Act.put, List.setIfInBounds_toArray, List.set_cons_zero, List.set_cons_succ, List.getElem_toArray, List.getElem_cons_zero, List.getElem_cons_succ]
  refine wpAnyH_take (i := 4) (v := undef) rfl (by kernel_rfl) (by kernel_rfl) (by kernel_rfl) (fun _ _ _ h => h) (Or.inr ⟨by kernel_rfl, rfl⟩) hHeld ?_
  try simp only [Act.put, List.setIfInBounds_toArray, List.set_cons_zero, List.set_cons_succ, List.getElem_toArray, List.getElem_cons_zero, List.getElem_cons_succ]
  refine wpAnyH_take (i := 5) (v := undef) rfl (by kernel_rfl) (by kernel_rfl) (by kernel_rfl) (fun _ _ _ h => h) (Or.inr ⟨by kernel_rfl, rfl⟩) hHeld ?_
  try simp only [Act.put, List.setIfInBounds_toArray, List.set_cons_zero, List.set_cons_succ, List.getElem_toArray, List.getElem_cons_zero, List.getElem_cons_succ]
  refine wpAnyH_take (i := 6) (v := ?_) rfl (by kernel_rfl) (by kernel_rfl) (by kernel_rfl) (fun _ _ _ h => h) (Or.inl ⟨by rfl, ?_⟩) hHeld ?_
  rotate_left
  · intro w hSw
    have hSw1 := hSw
    clear hSw
    try dsimp only at hSw1
    go_simp
    try (with_reducible rfl)
  try simp only [Act.put, List.setIfInBounds_toArray, List.set_cons_zero, List.set_cons_succ, List.getElem_toArray, List.getElem_cons_zero, List.getElem_cons_succ]
  refine wpAnyH_take (i := 7) (v := ?_) rfl (by kernel_rfl) (by kernel_rfl) (by kernel_rfl) (fun _ _ _ h => h) (Or.inl ⟨by rfl, ?_⟩) hHeld ?_
  rotate_left
  · intro w hSw
    have hSw1 := hSw
    clear hSw
    try dsimp only at hSw1
    go_simp
    try (with_reducible rfl)
  try simp only [Act.put, List.setIfInBounds_toArray, List.set_cons_zero, List.set_cons_succ, List.getElem_toArray, List.getElem_cons_zero, List.getElem_cons_succ]
  refine wpAnyH_done (by kernel_rfl) ?_ _
  go_wp2_with fail
  exact bodyPost_ret (results_tmp rfl _ _ _) rfl ⟨rfl, (HQ.out.2.1.trans HS2.out).drew⟩

set_option maxHeartbeats 8000000 in
theorem kinds10_5 (x : Rw) (a : Option Addr) (cap : Nat) (w : World) (hik : x.kind = 5) (hr : Rd w 3 a x.es.length (entcs x.es)) (hl : x.es.length ≤ 4398046511104) (hd : x.data.length ≤ 140737488351232) :
    Calls Try.prog 7 #[rwV x (.slice a x.es.length cap)] w fun e w' => e = .returned (.bool true) ∧ Step [] [] w w' := by
  have k3 : (x.kind == 3) = false := by rw [hik]; rfl
  have k5 : (x.kind == 5) = true := by rw [hik]; rfl
  have HKX := Lib.hid hik
  have HK : Hid (isKind x.kind = true) := Lib.hid (by rw [hik]; rfl)
  clear hik
  have H0 : Hid (Rd (w.alloc (.cells (rwc x (.slice a x.es.length cap)).toArray 24)) 3 a x.es.length (entcs x.es) ∧ Step [] [] w (w.alloc (.cells (rwc x (.slice a x.es.length cap)).toArray 24)) ∧ Blk (w.alloc (.cells (rwc x (.slice a x.es.length cap)).toArray 24)) w.heap.size 24 (rwc x (.slice a x.es.length cap)).toArray) := ⟨hr.alloc _, (Step.refl [] w).alloc _, Blk.new w _ _⟩
  have HL0 := Lib.hid (And.intro hl (And.intro (clean_len x) hd))
  clear hr hl hd
  go_enter Try.func7, Try.ntmps7
  go_wp2_with fail
  refine (awake10_true _).mono ?_
  rintro e w1 ⟨rfl, k1⟩
  obtain ⟨b, hb⟩ : ∃ b, b = w.heap.size := ⟨_, rfl⟩
  have H1 : Hid (Rd w1 3 a x.es.length (entcs x.es) ∧ Step [] [] w w1 ∧ Blk w1 b 24 (rwc x (.slice a x.es.length cap)).toArray) := by
    rw [hb]
    exact ⟨H0.out.1.step0 k1, H0.out.2.1.trans k1, H0.out.2.2.step k1 (by simp)⟩
  rw [← hb]
  clear k1 hb H0
  have ra := H1.out.2.2.rw
  have rl := H1.out.2.2.lt
  go_wp2_with fail
  refine (of_any x a cap w1 HK.out H1.out.1 HL0.out.1).mono ?_
  rintro e w2 ⟨m, rfl, hm, k2⟩
  obtain ⟨y, hy⟩ : ∃ y, y = cleanL x := ⟨_, rfl⟩
  have HCL : Hid ((cleanL y = y ∧ isKind y.kind = true) ∧ (y.es.length ≤ 4398046511104 ∧ True) ∧ y = cleanL x) := by
    rw [hy]
    exact ⟨⟨(clean_clean x HK.out).1, by rw [(clean_clean x HK.out).2]; exact HK.out⟩, ⟨Nat.le_trans HL0.out.2.1 HL0.out.1, trivial⟩, rfl⟩
  have hyk : y.kind = 5 := by rw [hy, (clean_clean x HK.out).2]; exact HKX.out
  rw [← hy] at hm
  clear hy
  have hno := hm.noes
  obtain ⟨ay, capy, hry, h5⟩ := hm.open_
  have H2 : Hid (Rd w2 3 a x.es.length (entcs x.es) ∧ Step [] [] w w2 ∧ Blk w2 b 24 (rwc x (.slice a x.es.length cap)).toArray) := ⟨H1.out.1.step0 k2, H1.out.2.1.trans k2, H1.out.2.2.step k2 (by simp)⟩
  have HY : Hid (y.kind = 5 ∧ y.es = []) := Lib.hid ⟨hyk, hno (by omega)⟩
  have hm' : m = .iface 51 (.agg #[.int .i64 y.src, .int .i64 y.term, .int .i64 y.index, .int .i64 y.last, .int .i64 y.round, Str y.data]) := by
    rcases h5 with ⟨h, e⟩ | ⟨h, e⟩ | ⟨h, e⟩ | ⟨h, e⟩ | ⟨h, e⟩ <;> first | exact e | (exfalso; omega)
  subst hm'
  clear ra rl k2 H1 hm hno hry h5 hyk
  have ra := H2.out.2.2.rw
  have rl := H2.out.2.2.lt
  go_wp2_with fail
  refine (isApp_no _ w2 (ta53 _)).mono ?_
  rintro e w3 ⟨rfl, k3⟩
  unfold appZ
  have H3 : Hid (Rd w3 3 a x.es.length (entcs x.es) ∧ Step [] [] w w3 ∧ Blk w3 b 24 (rwc x (.slice a x.es.length cap)).toArray ∧ Step [] [] w2 w3) := ⟨H2.out.1.step0 k3, H2.out.2.1.trans k3, H2.out.2.2.step k3 (by simp), k3⟩
  clear k3 ra rl
  go_wp2_with fail
  obtain ⟨b5, hb5⟩ : ∃ b, b = w3.heap.size := ⟨_, rfl⟩
  obtain ⟨V3, hV3⟩ : ∃ V, V = w3.alloc (.cells #[.int .i64 0, .int .i64 0, .int .i64 0, .int .i64 0, .int .i64 0, .int .i64 0, .slice none 0 0] 47) := ⟨_, rfl⟩
  have H4 : Hid (Rd V3 3 a x.es.length (entcs x.es) ∧ Step [] [] w V3 ∧ Blk V3 b 24 (rwc x (.slice a x.es.length cap)).toArray ∧ Step [] [] w2 V3 ∧ Blk V3 b5 47 #[.int .i64 0, .int .i64 0, .int .i64 0, .int .i64 0, .int .i64 0, .int .i64 0, .slice none 0 0]) := by
    rw [hV3, hb5]
    exact ⟨H3.out.1.alloc _, H3.out.2.1.alloc _, H3.out.2.2.1.alloc _, H3.out.2.2.2.alloc _, Blk.new _ _ _⟩
  rw [← hV3, ← hb5]
  clear hV3 hb5 H3
  refine (must_yes _ _ _ _ _ _ V3).mono ?_
  rintro e w4 ⟨rfl, k4⟩
  have H5 : Hid (Rd w4 3 a x.es.length (entcs x.es) ∧ Step [] [] w w4 ∧ Blk w4 b 24 (rwc x (.slice a x.es.length cap)).toArray ∧ Step [] [] w2 w4 ∧ Blk w4 b5 47 #[.int .i64 0, .int .i64 0, .int .i64 0, .int .i64 0, .int .i64 0, .int .i64 0, .slice none 0 0]) := ⟨H4.out.1.step0 k4, H4.out.2.1.trans k4, H4.out.2.2.1.step k4 (by simp), H4.out.2.2.2.1.trans k4, H4.out.2.2.2.2.step k4 (by simp)⟩
  clear k4 H4
  obtain ⟨b7, hb7⟩ : ∃ b, b = w4.heap.size := ⟨_, rfl⟩
  obtain ⟨V4, hV4⟩ : ∃ V, V = w4.alloc (.cells #[.int .i64 y.src, .int .i64 y.term, .int .i64 y.index, .int .i64 y.last, .int .i64 y.round, .string ⟨y.data.toArray⟩] 51) := ⟨_, rfl⟩
  have H6 : Hid (Rd V4 3 a x.es.length (entcs x.es) ∧ Step [] [] w V4 ∧ Blk V4 b 24 (rwc x (.slice a x.es.length cap)).toArray ∧ Step [] [] w2 V4 ∧ Blk V4 b5 47 #[.int .i64 0, .int .i64 0, .int .i64 0, .int .i64 0, .int .i64 0, .int .i64 0, .slice none 0 0] ∧ Blk V4 b7 51 #[.int .i64 y.src, .int .i64 y.term, .int .i64 y.index, .int .i64 y.last, .int .i64 y.round, .string ⟨y.data.toArray⟩]) := by
    rw [hV4, hb7]
    exact ⟨H5.out.1.alloc _, H5.out.2.1.alloc _, H5.out.2.2.1.alloc _, H5.out.2.2.2.1.alloc _, H5.out.2.2.2.2.alloc _, Blk.new _ _ _⟩
  go_upto_region 6 with fail
  rw [← hV4, ← hb7]
  clear hV4 hb7 H5
  have ra := H6.out.2.2.1.rw
  have rl := H6.out.2.2.1.lt
  go_wp2_with fail
  refine (refClean_any x a cap V4 H6.out.1 HL0.out.1).mono ?_
  rintro e w5 ⟨a3, cap3, rfl, r3, k5⟩
  rw [HK.out]
  rw [← HCL.out.2.2] at r3 ⊢
  clear ra rl
  obtain ⟨b9, hb9⟩ : ∃ b, b = w5.heap.size := ⟨_, rfl⟩
  obtain ⟨Q, hQ⟩ : ∃ V, V = w5.alloc (.cells (rwc y (.slice a3 y.es.length cap3)).toArray 24) := ⟨_, rfl⟩
  have HQ : Hid (Rd Q 3 a3 y.es.length (entcs y.es) ∧ Step [] [] w Q ∧ Blk Q b 24 (rwc x (.slice a x.es.length cap)).toArray ∧ Step [] [] w2 Q ∧ Blk Q b5 47 #[.int .i64 0, .int .i64 0, .int .i64 0, .int .i64 0, .int .i64 0, .int .i64 0, .slice none 0 0] ∧ Blk Q b7 51 #[.int .i64 y.src, .int .i64 y.term, .int .i64 y.index, .int .i64 y.last, .int .i64 y.round, .string ⟨y.data.toArray⟩] ∧ Blk Q b9 24 (rwc y (.slice a3 y.es.length cap3)).toArray) := by
    rw [hQ, hb9]
    exact ⟨r3.alloc _, (H6.out.2.1.trans k5).alloc _, (H6.out.2.2.1.step k5 (by simp)).alloc _, (H6.out.2.2.2.1.trans k5).alloc _, (H6.out.2.2.2.2.1.step k5 (by simp)).alloc _, (H6.out.2.2.2.2.2.step k5 (by simp)).alloc _, Blk.new _ _ _⟩
  clear r3 k5 H6
  go_upto_region 7 with fail
  rw [show w5.alloc (.cells #[.int .i64 y.kind, .int .i64 y.src, .int .i64 y.term, .int .i64 y.index, .int .i64 y.last, .int .i64 y.commit, .int .i64 y.round, .bool y.yes, .slice a3 y.es.length cap3, .string ⟨y.data.toArray⟩] 24) = Q from hQ.symm, ← hb9]
  clear hQ hb9
  have ra := HQ.out.2.2.1.rw
  have rl := HQ.out.2.2.1.lt
  go_upto_region 9 with fail
  clear ra rl
  refine wp_region_held_drew (S := fun W => Hid (Step [] [] Q W)) (by kernel_rfl) (Lib.hid ((Step.refl [] Q).drew)) (fun hHeld => ?_)
  refine wpAnyH_take (i := 0) (v := ?_) rfl (by kernel_rfl) (by kernel_rfl) (by kernel_rfl) (fun _ _ _ h => h) (Or.inl ⟨by rfl, ?_⟩) hHeld ?_
  rotate_left
  · intro w hSw
    have hSw1 := hSw
    clear hSw
    try dsimp only at hSw1
    go_simp
    try (with_reducible rfl)
  try simp only [Act.put, List.setIfInBounds_toArray, List.set_cons_zero, List.set_cons_succ, List.getElem_toArray, List.getElem_cons_zero, List.getElem_cons_succ]
  refine wpAnyH_take (i := 1) (v := ?_) rfl (by kernel_rfl) (by kernel_rfl) (by kernel_rfl) (fun _ _ _ h => h) (Or.inl ⟨by rfl, ?_⟩) hHeld ?_
  rotate_left
  · intro w hSw
    have hSw1 := hSw
    clear hSw
    try dsimp only at hSw1
    go_simp
    try (with_reducible rfl)
  try simp only [Act.put, List.setIfInBounds_toArray, List.set_cons_zero, List.set_cons_succ, List.getElem_toArray, List.getElem_cons_zero, List.getElem_cons_succ]
  refine wpAnyH_take (i := 2) (v := undef) rfl (by kernel_rfl) (by kernel_rfl) (by kernel_rfl) (fun _ _ _ h => h) (Or.inr ⟨by kernel_rfl, rfl⟩) hHeld ?_
  try simp only [Act.put, List.setIfInBounds_toArray, List.set_cons_zero, List.set_cons_succ, List.getElem_toArray, List.getElem_cons_zero, List.getElem_cons_succ]
  refine wpAnyH_take (i := 3) (v := undef) rfl (by kernel_rfl) (by kernel_rfl) (by kernel_rfl) (fun _ _ _ h => h) (Or.inr ⟨by kernel_rfl, rfl⟩) hHeld ?_
  try simp only [Act.put, List.setIfInBounds_toArray, List.set_cons_zero, List.set_cons_succ, List.getElem_toArray, List.getElem_cons_zero, List.getElem_cons_succ]
  refine wpAnyH_take (i := 4) (v := undef) rfl (by kernel_rfl) (by kernel_rfl) (by kernel_rfl) (fun _ _ _ h => h) (Or.inr ⟨by kernel_rfl, rfl⟩) hHeld ?_
  try simp only [Act.put, List.setIfInBounds_toArray, List.set_cons_zero, List.set_cons_succ, List.getElem_toArray, List.getElem_cons_zero, List.getElem_cons_succ]
  refine wpAnyH_take (i := 5) (v := undef) rfl (by kernel_rfl) (by kernel_rfl) (by kernel_rfl) (fun _ _ _ h => h) (Or.inr ⟨by kernel_rfl, rfl⟩) hHeld ?_
  try simp only [Act.put, List.setIfInBounds_toArray, List.set_cons_zero, List.set_cons_succ, List.getElem_toArray, List.getElem_cons_zero, List.getElem_cons_succ]
  refine wpAnyH_take (i := 6) (v := undef) rfl (by kernel_rfl) (by kernel_rfl) (by kernel_rfl) (fun _ _ _ h => h) (Or.inr ⟨by kernel_rfl, rfl⟩) hHeld ?_
  try simp only [Act.put, List.setIfInBounds_toArray, List.set_cons_zero, List.set_cons_succ, List.getElem_toArray, List.getElem_cons_zero, List.getElem_cons_succ]
  refine wpAnyH_take (i := 7) (v := ?_) rfl (by kernel_rfl) (by kernel_rfl) (by kernel_rfl) (fun _ _ _ h => h) (Or.inl ⟨by rfl, ?_⟩) hHeld ?_
  rotate_left
  · intro w hSw
    have hSw1 := hSw
    clear hSw
    try dsimp only at hSw1
    go_simp
    try (with_reducible rfl)
  try simp only [Act.put, List.setIfInBounds_toArray, List.set_cons_zero, List.set_cons_succ, List.getElem_toArray, List.getElem_cons_zero, List.getElem_cons_succ]
  refine wpAnyH_take (i := 8) (v := ?_) rfl (by kernel_rfl) (by kernel_rfl) (by kernel_rfl) (fun _ _ _ h => h) (Or.inl ⟨by rfl, ?_⟩) hHeld ?_
  rotate_left
  · intro w hSw
    have hSw1 := hSw
    clear hSw
    try dsimp only at hSw1
    go_simp
    try (with_reducible rfl)
  try simp only [Act.put, List.setIfInBounds_toArray, List.set_cons_zero, List.set_cons_succ, List.getElem_toArray, List.getElem_cons_zero, List.getElem_cons_succ]
  refine wpAnyH_take (i := 9) (v := ?_) rfl (by kernel_rfl) (by kernel_rfl) (by kernel_rfl) (fun _ _ _ h => h) (Or.inl ⟨by rfl, ?_⟩) hHeld ?_
  rotate_left
  · intro w hSw
    have hSw1 := hSw
    clear hSw
    try dsimp only at hSw1
    go_simp
    try (with_reducible rfl)
  try simp only [Act.put, List.setIfInBounds_toArray, List.set_cons_zero, List.set_cons_succ, List.getElem_toArray, List.getElem_cons_zero, List.getElem_cons_succ]
  refine wpAnyH_take (i := 10) (v := ?_) rfl (by kernel_rfl) (by kernel_rfl) (by kernel_rfl) (fun _ _ _ h => h) (Or.inl ⟨by rfl, ?_⟩) hHeld ?_
  rotate_left
  · intro w hSw
    have hSw1 := hSw
    clear hSw
    try dsimp only at hSw1
    go_simp
    try (with_reducible rfl)
  try simp only [Act.put, List.setIfInBounds_toArray, List.set_cons_zero, List.set_cons_succ, List.getElem_toArray, List.getElem_cons_zero, List.getElem_cons_succ]
  refine wpAnyH_take (i := 11) (v := ?_) rfl (by kernel_rfl) (by kernel_rfl) (by kernel_rfl) (fun _ _ _ h => h) (Or.inl ⟨by rfl, ?_⟩) hHeld ?_
  rotate_left
  · intro w hSw
    have hSw1 := hSw
    clear hSw
    try dsimp only at hSw1
    go_simp
    try (with_reducible rfl)
  try simp only [Act.put, List.setIfInBounds_toArray, List.set_cons_zero, List.set_cons_succ, List.getElem_toArray, List.getElem_cons_zero, List.getElem_cons_succ]
  refine wpAnyH_take (i := 12) (v := ?_) rfl (by kernel_rfl) (by kernel_rfl) (by kernel_rfl) (fun _ _ _ h => h) (Or.inl ⟨by rfl, ?_⟩) hHeld ?_
  rotate_left
  · intro w hSw
    have hSw1 := hSw
    clear hSw
    try dsimp only at hSw1
    go_simp
    try (with_reducible rfl)
  try simp only [Act.put, List.setIfInBounds_toArray, List.set_cons_zero, List.set_cons_succ, List.getElem_toArray, List.getElem_cons_zero, List.getElem_cons_succ]
  refine wpAnyH_take (i := 13) (v := ?_) rfl (by kernel_rfl) (by kernel_rfl) (by kernel_rfl) (fun _ _ _ h => h) (Or.inl ⟨by rfl, ?_⟩) hHeld ?_
  rotate_left
  · intro w hSw
    have hSw1 := hSw
    clear hSw
    have q0 := (HQ.out.2.2.2.2.1.step hSw1.out (by simp)).cell 0
    have q1 := (HQ.out.2.2.2.2.1.step hSw1.out (by simp)).cell 1
    have q2 := (HQ.out.2.2.2.2.1.step hSw1.out (by simp)).cell 2
    have q3 := (HQ.out.2.2.2.2.1.step hSw1.out (by simp)).cell 3
    have q4 := (HQ.out.2.2.2.2.1.step hSw1.out (by simp)).cell 4
    have q5 := (HQ.out.2.2.2.2.1.step hSw1.out (by simp)).cell 5
    have q6 := (HQ.out.2.2.2.2.1.step hSw1.out (by simp)).cell 6
    have ql := (HQ.out.2.2.2.2.1.step hSw1.out (by simp)).lt
    simp only [List.getElem?_toArray, List.getElem?_cons_zero, List.getElem?_cons_succ] at q0 q1 q2 q3 q4 q5 q6
    go_simp
    try (with_reducible rfl)
  try simp only [Act.put, List.setIfInBounds_toArray, List.set_cons_zero, List.set_cons_succ, List.getElem_toArray, List.getElem_cons_zero, List.getElem_cons_succ]
  refine wpAnyH_take (i := 14) (v := ?_) rfl (by kernel_rfl) (by kernel_rfl) (by kernel_rfl) (fun _ _ _ h => h) (Or.inl ⟨by rfl, ?_⟩) hHeld ?_
  rotate_left
  · intro w hSw
    have hSw1 := hSw
    clear hSw
    try dsimp only at hSw1
    go_simp
    try (with_reducible rfl)
  try simp only [Act.put, List.setIfInBounds_toArray, List.set_cons_zero, List.set_cons_succ, List.getElem_toArray, List.getElem_cons_zero, List.getElem_cons_succ]
  refine wpAnyH_take (i := 15) (v := ?_) rfl (by kernel_rfl) (by kernel_rfl) (by kernel_rfl) (fun _ _ _ h => h) (Or.inl ⟨by rfl, ?_⟩) hHeld ?_
  rotate_left
  · intro w hSw
    have hSw1 := hSw
    clear hSw
    try dsimp only at hSw1
    go_simp
    try (with_reducible rfl)
  try simp only [Act.put, List.setIfInBounds_toArray, List.set_cons_zero, List.set_cons_succ, List.getElem_toArray, List.getElem_cons_zero, List.getElem_cons_succ]
  refine wpAnyH_take (i := 16) (v := ?_) rfl (by kernel_rfl) (by kernel_rfl) (by kernel_rfl) (fun _ _ _ h => h) (Or.inl ⟨by rfl, ?_⟩) hHeld ?_
  rotate_left
  · intro w hSw
    have hSw1 := hSw
    clear hSw
    try dsimp only at hSw1
    go_simp
    try (with_reducible rfl)
  try simp only [Act.put, List.setIfInBounds_toArray, List.set_cons_zero, List.set_cons_succ, List.getElem_toArray, List.getElem_cons_zero, List.getElem_cons_succ]
  refine wpAnyH_take (i := 17) (v := ?_) rfl (by kernel_rfl) (by kernel_rfl) (by kernel_rfl) (fun _ _ _ h => h) (Or.inl ⟨by rfl, ?_⟩) hHeld ?_
  rotate_left
  · intro w hSw
    have hSw1 := hSw
    clear hSw
    have q0 := (HQ.out.2.2.2.2.1.step hSw1.out (by simp)).cell 0
    have q1 := (HQ.out.2.2.2.2.1.step hSw1.out (by simp)).cell 1
    have q2 := (HQ.out.2.2.2.2.1.step hSw1.out (by simp)).cell 2
    have q3 := (HQ.out.2.2.2.2.1.step hSw1.out (by simp)).cell 3
    have q4 := (HQ.out.2.2.2.2.1.step hSw1.out (by simp)).cell 4
    have q5 := (HQ.out.2.2.2.2.1.step hSw1.out (by simp)).cell 5
    have q6 := (HQ.out.2.2.2.2.1.step hSw1.out (by simp)).cell 6
    have ql := (HQ.out.2.2.2.2.1.step hSw1.out (by simp)).lt
    simp only [List.getElem?_toArray, List.getElem?_cons_zero, List.getElem?_cons_succ] at q0 q1 q2 q3 q4 q5 q6
    go_simp
    try (with_reducible rfl)
  try simp only [Act.put, List.setIfInBounds_toArray, List.set_cons_zero, List.set_cons_succ, List.getElem_toArray, List.getElem_cons_zero, List.getElem_cons_succ]
  refine wpAnyH_take (i := 18) (v := ?_) rfl (by kernel_rfl) (by kernel_rfl) (by kernel_rfl) (fun _ _ _ h => h) (Or.inl ⟨by rfl, ?_⟩) hHeld ?_
  rotate_left
  · intro w hSw
    have hSw1 := hSw
    clear hSw
    try dsimp only at hSw1
    go_simp
    try (with_reducible rfl)
  try simp only [Act.put, List.setIfInBounds_toArray, List.set_cons_zero, List.set_cons_succ, List.getElem_toArray, List.getElem_cons_zero, List.getElem_cons_succ]
  refine wpAnyH_take (i := 19) (v := ?_) rfl (by kernel_rfl) (by kernel_rfl) (by kernel_rfl) (fun _ _ _ h => h) (Or.inl ⟨by rfl, ?_⟩) hHeld ?_
  rotate_left
  · intro w hSw
    have hSw1 := hSw
    clear hSw
    try dsimp only at hSw1
    go_simp
    try (with_reducible rfl)
  try simp only [Act.put, List.setIfInBounds_toArray, List.set_cons_zero, List.set_cons_succ, List.getElem_toArray, List.getElem_cons_zero, List.getElem_cons_succ]
  refine wpAnyH_take (i := 20) (v := ?_) rfl (by kernel_rfl) (by kernel_rfl) (by kernel_rfl) (fun _ _ _ h => h) (Or.inl ⟨by rfl, ?_⟩) hHeld ?_
  rotate_left
  · intro w hSw
    have hSw1 := hSw
    clear hSw
    try dsimp only at hSw1
    go_simp
    try (with_reducible rfl)
  try simp only [Act.put, List.setIfInBounds_toArray, List.set_cons_zero, List.set_cons_succ, List.getElem_toArray, List.getElem_cons_zero, List.getElem_cons_succ]
  refine wpAnyH_take (i := 21) (v := ?_) rfl (by kernel_rfl) (by kernel_rfl) (by kernel_rfl) (fun _ _ _ h => h) (Or.inl ⟨by rfl, ?_⟩) hHeld ?_
  rotate_left
  · intro w hSw
    have hSw1 := hSw
    clear hSw
    try dsimp only at hSw1
    go_simp
    try (with_reducible rfl)
  try simp only [Act.put, List.setIfInBounds_toArray, List.set_cons_zero, List.set_cons_succ, List.getElem_toArray, List.getElem_cons_zero, List.getElem_cons_succ]
  refine wpAnyH_take (i := 22) (v := ?_) rfl (by kernel_rfl) (by kernel_rfl) (by kernel_rfl) (fun _ _ _ h => h) (Or.inl ⟨by rfl, ?_⟩) hHeld ?_
  rotate_left
  · intro w hSw
    have hSw1 := hSw
    clear hSw
    have q0 := (HQ.out.2.2.2.2.1.step hSw1.out (by simp)).cell 0
    have q1 := (HQ.out.2.2.2.2.1.step hSw1.out (by simp)).cell 1
    have q2 := (HQ.out.2.2.2.2.1.step hSw1.out (by simp)).cell 2
    have q3 := (HQ.out.2.2.2.2.1.step hSw1.out (by simp)).cell 3
    have q4 := (HQ.out.2.2.2.2.1.step hSw1.out (by simp)).cell 4
    have q5 := (HQ.out.2.2.2.2.1.step hSw1.out (by simp)).cell 5
    have q6 := (HQ.out.2.2.2.2.1.step hSw1.out (by simp)).cell 6
    have ql := (HQ.out.2.2.2.2.1.step hSw1.out (by simp)).lt
    simp only [List.getElem?_toArray, List.getElem?_cons_zero, List.getElem?_cons_succ] at q0 q1 q2 q3 q4 q5 q6
    go_simp
    try (with_reducible rfl)
  try simp only [Act.put, List.setIfInBounds_toArray, List.set_cons_zero, List.set_cons_succ, List.getElem_toArray, List.getElem_cons_zero, List.getElem_cons_succ]
  refine wpAnyH_take (i := 23) (v := ?_) rfl (by kernel_rfl) (by kernel_rfl) (by kernel_rfl) (fun _ _ _ h => h) (Or.inl ⟨by rfl, ?_⟩) hHeld ?_
  rotate_left
  · intro w hSw
    have hSw1 := hSw
    clear hSw
    try dsimp only at hSw1
    go_simp
    try (with_reducible rfl)
  try simp only [Act.put, List.setIfInBounds_toArray, List.set_cons_zero, List.set_cons_succ, List.getElem_toArray, List.getElem_cons_zero, List.getElem_cons_succ]
  refine wpAnyH_take (i := 24) (v := ?_) rfl (by kernel_rfl) (by kernel_rfl) (by kernel_rfl) (fun _ _ _ h => h) (Or.inl ⟨by rfl, ?_⟩) hHeld ?_
  rotate_left
  · intro w hSw
    have hSw1 := hSw
    clear hSw
    try dsimp only at hSw1
    go_simp
    try (with_reducible rfl)
  try simp only [Act.put, List.setIfInBounds_toArray, List.set_cons_zero, List.set_cons_succ, List.getElem_toArray, List.getElem_cons_zero, List.getElem_cons_succ]
  refine wpAnyH_take (i := 25) (v := ?_) rfl (by kernel_rfl) (by kernel_rfl) (by kernel_rfl) (fun _ _ _ h => h) (Or.inl ⟨by rfl, ?_⟩) hHeld ?_
  rotate_left
  · intro w hSw
    have hSw1 := hSw
    clear hSw
    try dsimp only at hSw1
    go_simp
    try (with_reducible rfl)
  try simp only [Act.put, List.setIfInBounds_toArray, List.set_cons_zero, List.set_cons_succ, List.getElem_toArray, List.getElem_cons_zero, List.getElem_cons_succ]
  refine wpAnyH_take (i := 26) (v := ?_) rfl (by kernel_rfl) (by kernel_rfl) (by kernel_rfl) (fun _ _ _ h => h) (Or.inl ⟨by rfl, ?_⟩) hHeld ?_
  rotate_left
  · intro w hSw
    have hSw1 := hSw
    clear hSw
    try dsimp only at hSw1
    go_simp
    try (with_reducible rfl)
  try simp only [Act.put, List.setIfInBounds_toArray, List.set_cons_zero, List.set_cons_succ, List.getElem_toArray, List.getElem_cons_zero, List.getElem_cons_succ]
  refine wpAnyH_take (i := 27) (v := ?_) rfl (by kernel_rfl) (by kernel_rfl) (by kernel_rfl) (fun _ _ _ h => h) (Or.inl ⟨by rfl, ?_⟩) hHeld ?_
  rotate_left
  · intro w hSw
    have hSw1 := hSw
    clear hSw
    try dsimp only at hSw1
    go_simp
    try (with_reducible rfl)
  try simp only [Act.put, List.setIfInBounds_toArray, List.set_cons_zero, List.set_cons_succ, List.getElem_toArray, List.getElem_cons_zero, List.getElem_cons_succ]
  refine wpAnyH_done (by kernel_rfl) ?_ _
  obtain ⟨Q2, hQ2⟩ : ∃ V, V = Q.drew := ⟨_, rfl⟩
  have HS2 : Hid (Step [] [] Q Q2) := by
    rw [hQ2]
    exact (Step.refl [] Q).drew
  rw [← hQ2]
  clear hQ2
  go_upto_region 11 with fail
  refine wp_region_held_drew (S := fun W => Hid (Step [] [] Q2 W)) (by kernel_rfl) (Lib.hid ((Step.refl [] Q2).drew)) (fun hHeld => ?_)
  refine wpAnyH_take (i := 0) (v := ?_) rfl (by kernel_rfl) (by kernel_rfl) (by kernel_rfl) (fun _ _ _ h => h) (Or.inl ⟨by rfl, ?_⟩) hHeld ?_
  rotate_left
  · intro w hSw
    have hSw1 := hSw
    clear hSw
    try dsimp only at hSw1
    go_simp
    try (with_reducible rfl)
  try simp only [Act.put, List.setIfInBounds_toArray, List.set_cons_zero, List.set_cons_succ, List.getElem_toArray, List.getElem_cons_zero, List.getElem_cons_succ]
  refine wpAnyH_take (i := 1) (v := ?_) rfl (by kernel_rfl) (by kernel_rfl) (by kernel_rfl) (fun _ _ _ h => h) (Or.inl ⟨by rfl, ?_⟩) hHeld ?_
  rotate_left
  · intro w hSw
    have hSw1 := hSw
    clear hSw
    try dsimp only at hSw1
    go_simp
    try (with_reducible rfl)
  try simp only [Act.put, List.setIfInBounds_toArray, List.set_cons_zero, List.set_cons_succ, List.getElem_toArray, List.getElem_cons_zero, List.getElem_cons_succ]
  refine wpAnyH_take (i := 2) (v := ?_) rfl (by kernel_rfl) (by kernel_rfl) (by kernel_rfl) (fun _ _ _ h => h) (Or.inl ⟨by rfl, ?_⟩) hHeld ?_
  rotate_left
  · intro w hSw
    have hSw1 := hSw
    clear hSw
    have q0 := (HQ.out.2.2.2.2.2.1.step (HS2.out.trans hSw1.out) (by simp)).cell 0
    have q1 := (HQ.out.2.2.2.2.2.1.step (HS2.out.trans hSw1.out) (by simp)).cell 1
    have q2 := (HQ.out.2.2.2.2.2.1.step (HS2.out.trans hSw1.out) (by simp)).cell 2
    have q3 := (HQ.out.2.2.2.2.2.1.step (HS2.out.trans hSw1.out) (by simp)).cell 3
    have q4 := (HQ.out.2.2.2.2.2.1.step (HS2.out.trans hSw1.out) (by simp)).cell 4
    have q5 := (HQ.out.2.2.2.2.2.1.step (HS2.out.trans hSw1.out) (by simp)).cell 5
    have ql := (HQ.out.2.2.2.2.2.1.step (HS2.out.trans hSw1.out) (by simp)).lt
    simp only [List.getElem?_toArray, List.getElem?_cons_zero, List.getElem?_cons_succ] at q0 q1 q2 q3 q4 q5
    go_simp
    try (with_reducible rfl)
  try simp only [Act.put, List.setIfInBounds_toArray, List.set_cons_zero, List.set_cons_succ, List.getElem_toArray, List.getElem_cons_zero, List.getElem_cons_succ]
  refine wpAnyH_take (i := 4) (v := ?_) rfl (by kernel_rfl) (by kernel_rfl) (by kernel_rfl) (fun _ _ _ h => h) (Or.inl ⟨by rfl, ?_⟩) hHeld ?_
  rotate_left
  · intro w hSw
    have hSw1 := hSw
    clear hSw
    have ra := (HQ.out.2.2.2.2.2.2.step (HS2.out.trans hSw1.out) (by simp)).rw
    have rl := (HQ.out.2.2.2.2.2.2.step (HS2.out.trans hSw1.out) (by simp)).lt
    go_simp
    try (with_reducible rfl)
  try simp only [Act.put, List.setIfInBounds_toArray, List.set_cons_zero, List.set_cons_succ, List.getElem_toArray, List.getElem_cons_zero, List.getElem_cons_succ]
  refine wpAnyH_ready (rs := [3]) (by kernel_rfl) (by simp) ?_
  refine AllReadyH.cons rfl (fun K hK => ?_) AllReadyH.nil
  go_simp
  refine ((flat5_any y _ HY.out.1).mono fun e w' h => RawPost.none (by rw [HCL.out.1.1]; exact HY.out.2) h).mono ?_; rintro e U1 ⟨fa, fc, rfl, r1, k1⟩; rw [HCL.out.1.1] at r1 ⊢; have G1 := Lib.hid (And.intro r1 (hHeld.out.trans k1)); clear r1 k1
  go_wp2_with fail
  refine hK.out _ _ (Lib.hid G1.out.2) (fun hHeld2 => ?_)
  clear hK K hHeld
  try simp only [Act.put, List.setIfInBounds_toArray, List.set_cons_zero, List.set_cons_succ, List.getElem_toArray, List.getElem_cons_zero, List.getElem_cons_succ]
  refine wpAnyH_ready (rs := [5]) (by kernel_rfl) (by simp) ?_
  refine AllReadyH.cons rfl (fun K hK => ?_) AllReadyH.nil
  go_simp
  refine (sameR_any y _ _ _ _ U1 G1.out.1 (HQ.out.1.step0 (HS2.out.trans G1.out.2)) HCL.out.2.1.1).mono ?_; rintro e U2 ⟨rfl, k2⟩; have G2 := Lib.hid (G1.out.2.trans k2); clear k2
  go_wp2_with fail
  refine hK.out _ _ (Lib.hid G2.out) (fun hHeld3 => ?_)
  clear hK K hHeld2
  try simp only [Act.put, List.setIfInBounds_toArray, List.set_cons_zero, List.set_cons_succ, List.getElem_toArray, List.getElem_cons_zero, List.getElem_cons_succ]
  refine wpAnyH_take (i := 6) (v := ?_) rfl (by kernel_rfl) (by kernel_rfl) (by kernel_rfl) (fun _ _ _ h => h) (Or.inl ⟨by rfl, ?_⟩) hHeld3 ?_
  rotate_left
  · intro w hSw
    have hSw1 := hSw
    clear hSw
    try dsimp only at hSw1
    go_simp
    try (with_reducible rfl)
  try simp only [Act.put, List.setIfInBounds_toArray, List.set_cons_zero, List.set_cons_succ, List.getElem_toArray, List.getElem_cons_zero, List.getElem_cons_succ]
  refine wpAnyH_take (i := 7) (v := ?_) rfl (by kernel_rfl) (by kernel_rfl) (by kernel_rfl) (fun _ _ _ h => h) (Or.inl ⟨by rfl, ?_⟩) hHeld3 ?_
  rotate_left
  · intro w hSw
    have hSw1 := hSw
    clear hSw
    try dsimp only at hSw1
    go_simp
    try (with_reducible rfl)
  try simp only [Act.put, List.setIfInBounds_toArray, List.set_cons_zero, List.set_cons_succ, List.getElem_toArray, List.getElem_cons_zero, List.getElem_cons_succ]
  refine wpAnyH_done (by kernel_rfl) ?_ _
  go_wp2_with fail
  exact bodyPost_ret (results_tmp rfl _ _ _) rfl ⟨rfl, (HQ.out.2.1.trans HS2.out).trans G2.out⟩

set_option maxHeartbeats 8000000 in
theorem kinds10_3 (x : Rw) (a : Option Addr) (cap : Nat) (w : World) (hik : x.kind = 3) (hr : Rd w 3 a x.es.length (entcs x.es)) (hl : x.es.length ≤ 4398046511104) (hd : x.data.length ≤ 140737488351232) :
    Calls Try.prog 7 #[rwV x (.slice a x.es.length cap)] w fun e w' => e = .returned (.bool true) ∧ Step [] [] w w' := by
  have k3 : (x.kind == 3) = true := by rw [hik]; rfl
  have k5 : (x.kind == 5) = false := by rw [hik]; rfl
  have HKX := Lib.hid hik
  have HK : Hid (isKind x.kind = true) := Lib.hid (by rw [hik]; rfl)
  clear hik
  have H0 : Hid (Rd (w.alloc (.cells (rwc x (.slice a x.es.length cap)).toArray 24)) 3 a x.es.length (entcs x.es) ∧ Step [] [] w (w.alloc (.cells (rwc x (.slice a x.es.length cap)).toArray 24)) ∧ Blk (w.alloc (.cells (rwc x (.slice a x.es.length cap)).toArray 24)) w.heap.size 24 (rwc x (.slice a x.es.length cap)).toArray) := ⟨hr.alloc _, (Step.refl [] w).alloc _, Blk.new w _ _⟩
  have HL0 := Lib.hid (And.intro hl (And.intro (clean_len x) hd))
  clear hr hl hd
  go_enter Try.func7, Try.ntmps7
  go_wp2_with fail
  refine (awake10_true _).mono ?_
  rintro e w1 ⟨rfl, k1⟩
  obtain ⟨b, hb⟩ : ∃ b, b = w.heap.size := ⟨_, rfl⟩
  have H1 : Hid (Rd w1 3 a x.es.length (entcs x.es) ∧ Step [] [] w w1 ∧ Blk w1 b 24 (rwc x (.slice a x.es.length cap)).toArray) := by
    rw [hb]
    exact ⟨H0.out.1.step0 k1, H0.out.2.1.trans k1, H0.out.2.2.step k1 (by simp)⟩
  rw [← hb]
  clear k1 hb H0
  have ra := H1.out.2.2.rw
  have rl := H1.out.2.2.lt
  go_wp2_with fail
  refine (of_any x a cap w1 HK.out H1.out.1 HL0.out.1).mono ?_
  rintro e w2 ⟨m, rfl, hm, k2⟩
  obtain ⟨y, hy⟩ : ∃ y, y = cleanL x := ⟨_, rfl⟩
  have HCL : Hid ((cleanL y = y ∧ isKind y.kind = true) ∧ (y.es.length ≤ 4398046511104 ∧ True) ∧ y = cleanL x) := by
    rw [hy]
    exact ⟨⟨(clean_clean x HK.out).1, by rw [(clean_clean x HK.out).2]; exact HK.out⟩, ⟨Nat.le_trans HL0.out.2.1 HL0.out.1, trivial⟩, rfl⟩
  have hyk : y.kind = 3 := by rw [hy, (clean_clean x HK.out).2]; exact HKX.out
  rw [← hy] at hm
  clear hy
  have hno := hm.noes
  obtain ⟨ay, capy, hry, h5⟩ := hm.open_
  have H2 : Hid (Rd w2 3 a x.es.length (entcs x.es) ∧ Step [] [] w w2 ∧ Blk w2 b 24 (rwc x (.slice a x.es.length cap)).toArray) := ⟨H1.out.1.step0 k2, H1.out.2.1.trans k2, H1.out.2.2.step k2 (by simp)⟩
  have HY : Hid (y.kind = 3 ∧ Rd w2 3 ay y.es.length (entcs y.es)) := Lib.hid ⟨hyk, hry⟩
  have hm' : m = .iface 47 (.agg #[.int .i64 y.src, .int .i64 y.term, .int .i64 y.index, .int .i64 y.last, .int .i64 y.commit, .int .i64 y.round, .slice ay y.es.length capy]) := by
    rcases h5 with ⟨h, e⟩ | ⟨h, e⟩ | ⟨h, e⟩ | ⟨h, e⟩ | ⟨h, e⟩ <;> first | exact e | (exfalso; omega)
  subst hm'
  clear ra rl k2 H1 hm hno hry h5 hyk
  have ra := H2.out.2.2.rw
  have rl := H2.out.2.2.lt
  go_wp2_with fail
  refine (isApp_yes _ _ _ _ _ _ _ _ _ w2).mono ?_
  rintro e w3 ⟨rfl, k3⟩
  have H3 : Hid (Rd w3 3 a x.es.length (entcs x.es) ∧ Step [] [] w w3 ∧ Blk w3 b 24 (rwc x (.slice a x.es.length cap)).toArray ∧ Step [] [] w2 w3) := ⟨H2.out.1.step0 k3, H2.out.2.1.trans k3, H2.out.2.2.step k3 (by simp), k3⟩
  clear k3 ra rl
  go_wp2_with fail
  obtain ⟨b5, hb5⟩ : ∃ b, b = w3.heap.size := ⟨_, rfl⟩
  obtain ⟨V3, hV3⟩ : ∃ V, V = w3.alloc (.cells #[.int .i64 y.src, .int .i64 y.term, .int .i64 y.index, .int .i64 y.last, .int .i64 y.commit, .int .i64 y.round, .slice ay y.es.length capy] 47) := ⟨_, rfl⟩
  have H4 : Hid (Rd V3 3 a x.es.length (entcs x.es) ∧ Step [] [] w V3 ∧ Blk V3 b 24 (rwc x (.slice a x.es.length cap)).toArray ∧ Step [] [] w2 V3 ∧ Blk V3 b5 47 #[.int .i64 y.src, .int .i64 y.term, .int .i64 y.index, .int .i64 y.last, .int .i64 y.commit, .int .i64 y.round, .slice ay y.es.length capy]) := by
    rw [hV3, hb5]
    exact ⟨H3.out.1.alloc _, H3.out.2.1.alloc _, H3.out.2.2.1.alloc _, H3.out.2.2.2.alloc _, Blk.new _ _ _⟩
  rw [← hV3, ← hb5]
  clear hV3 hb5 H3
  refine (must_no _ V3 (fun W => mustShot_no _ W _ (fun X _ => tp3 _ X))).mono ?_
  rintro e w4 ⟨rfl, k4⟩
  unfold shotZ
  have H5 : Hid (Rd w4 3 a x.es.length (entcs x.es) ∧ Step [] [] w w4 ∧ Blk w4 b 24 (rwc x (.slice a x.es.length cap)).toArray ∧ Step [] [] w2 w4 ∧ Blk w4 b5 47 #[.int .i64 y.src, .int .i64 y.term, .int .i64 y.index, .int .i64 y.last, .int .i64 y.commit, .int .i64 y.round, .slice ay y.es.length capy]) := ⟨H4.out.1.step0 k4, H4.out.2.1.trans k4, H4.out.2.2.1.step k4 (by simp), H4.out.2.2.2.1.trans k4, H4.out.2.2.2.2.step k4 (by simp)⟩
  clear k4 H4
  obtain ⟨b7, hb7⟩ : ∃ b, b = w4.heap.size := ⟨_, rfl⟩
  obtain ⟨V4, hV4⟩ : ∃ V, V = w4.alloc (.cells #[.int .i64 0, .int .i64 0, .int .i64 0, .int .i64 0, .int .i64 0, .string ⟨#[]⟩] 51) := ⟨_, rfl⟩
  have H6 : Hid (Rd V4 3 a x.es.length (entcs x.es) ∧ Step [] [] w V4 ∧ Blk V4 b 24 (rwc x (.slice a x.es.length cap)).toArray ∧ Step [] [] w2 V4 ∧ Blk V4 b5 47 #[.int .i64 y.src, .int .i64 y.term, .int .i64 y.index, .int .i64 y.last, .int .i64 y.commit, .int .i64 y.round, .slice ay y.es.length capy] ∧ Blk V4 b7 51 #[.int .i64 0, .int .i64 0, .int .i64 0, .int .i64 0, .int .i64 0, .string ⟨#[]⟩]) := by
    rw [hV4, hb7]
    exact ⟨H5.out.1.alloc _, H5.out.2.1.alloc _, H5.out.2.2.1.alloc _, H5.out.2.2.2.1.alloc _, H5.out.2.2.2.2.alloc _, Blk.new _ _ _⟩
  go_upto_region 6 with fail
  rw [← hV4, ← hb7]
  clear hV4 hb7 H5
  have ra := H6.out.2.2.1.rw
  have rl := H6.out.2.2.1.lt
  go_wp2_with fail
  refine (refClean_any x a cap V4 H6.out.1 HL0.out.1).mono ?_
  rintro e w5 ⟨a3, cap3, rfl, r3, k5⟩
  rw [HK.out]
  rw [← HCL.out.2.2] at r3 ⊢
  clear ra rl
  obtain ⟨b9, hb9⟩ : ∃ b, b = w5.heap.size := ⟨_, rfl⟩
  obtain ⟨Q, hQ⟩ : ∃ V, V = w5.alloc (.cells (rwc y (.slice a3 y.es.length cap3)).toArray 24) := ⟨_, rfl⟩
  have HQ : Hid (Rd Q 3 a3 y.es.length (entcs y.es) ∧ Step [] [] w Q ∧ Blk Q b 24 (rwc x (.slice a x.es.length cap)).toArray ∧ Step [] [] w2 Q ∧ Blk Q b5 47 #[.int .i64 y.src, .int .i64 y.term, .int .i64 y.index, .int .i64 y.last, .int .i64 y.commit, .int .i64 y.round, .slice ay y.es.length capy] ∧ Blk Q b7 51 #[.int .i64 0, .int .i64 0, .int .i64 0, .int .i64 0, .int .i64 0, .string ⟨#[]⟩] ∧ Blk Q b9 24 (rwc y (.slice a3 y.es.length cap3)).toArray) := by
    rw [hQ, hb9]
    exact ⟨r3.alloc _, (H6.out.2.1.trans k5).alloc _, (H6.out.2.2.1.step k5 (by simp)).alloc _, (H6.out.2.2.2.1.trans k5).alloc _, (H6.out.2.2.2.2.1.step k5 (by simp)).alloc _, (H6.out.2.2.2.2.2.step k5 (by simp)).alloc _, Blk.new _ _ _⟩
  clear r3 k5 H6
  go_upto_region 7 with fail
  rw [show w5.alloc (.cells #[.int .i64 y.kind, .int .i64 y.src, .int .i64 y.term, .int .i64 y.index, .int .i64 y.last, .int .i64 y.commit, .int .i64 y.round, .bool y.yes, .slice a3 y.es.length cap3, .string ⟨y.data.toArray⟩] 24) = Q from hQ.symm, ← hb9]
  clear hQ hb9
  have ra := HQ.out.2.2.1.rw
  have rl := HQ.out.2.2.1.lt
  go_upto_region 9 with fail
  clear ra rl
  refine wp_region_held_drew (S := fun W => Hid (Step [] [] Q W)) (by kernel_rfl) (Lib.hid ((Step.refl [] Q).drew)) (fun hHeld => ?_)
  refine wpAnyH_take (i := 0) (v := ?_) rfl (by kernel_rfl) (by kernel_rfl) (by kernel_rfl) (fun _ _ _ h => h) (Or.inl ⟨by rfl, ?_⟩) hHeld ?_
  rotate_left
  · intro w hSw
    have hSw1 := hSw
    clear hSw
    try dsimp only at hSw1
    go_simp
    try (with_reducible rfl)
  try simp only [Act.put, List.setIfInBounds_toArray, List.set_cons_zero, List.set_cons_succ, List.getElem_toArray, List.getElem_cons_zero, List.getElem_cons_succ]
  refine wpAnyH_take (i := 1) (v := ?_) rfl (by kernel_rfl) (by kernel_rfl) (by kernel_rfl) (fun _ _ _ h => h) (Or.inl ⟨by rfl, ?_⟩) hHeld ?_
  rotate_left
  · intro w hSw
    have hSw1 := hSw
    clear hSw
    try dsimp only at hSw1
    go_simp
    try (with_reducible rfl)
  try simp only [Act.put, List.setIfInBounds_toArray, List.set_cons_zero, List.set_cons_succ, List.getElem_toArray, List.getElem_cons_zero, List.getElem_cons_succ]
  refine wpAnyH_take (i := 2) (v := ?_) rfl (by kernel_rfl) (by kernel_rfl) (by kernel_rfl) (fun _ _ _ h => h) (Or.inl ⟨by rfl, ?_⟩) hHeld ?_
  rotate_left
  · intro w hSw
    have hSw1 := hSw
    clear hSw
    have q0 := (HQ.out.2.2.2.2.1.step hSw1.out (by simp)).cell 0
    have q1 := (HQ.out.2.2.2.2.1.step hSw1.out (by simp)).cell 1
    have q2 := (HQ.out.2.2.2.2.1.step hSw1.out (by simp)).cell 2
    have q3 := (HQ.out.2.2.2.2.1.step hSw1.out (by simp)).cell 3
    have q4 := (HQ.out.2.2.2.2.1.step hSw1.out (by simp)).cell 4
    have q5 := (HQ.out.2.2.2.2.1.step hSw1.out (by simp)).cell 5
    have q6 := (HQ.out.2.2.2.2.1.step hSw1.out (by simp)).cell 6
    have ql := (HQ.out.2.2.2.2.1.step hSw1.out (by simp)).lt
    simp only [List.getElem?_toArray, List.getElem?_cons_zero, List.getElem?_cons_succ] at q0 q1 q2 q3 q4 q5 q6
    go_simp
    try (with_reducible rfl)
  try simp only [Act.put, List.setIfInBounds_toArray, List.set_cons_zero, List.set_cons_succ, List.getElem_toArray, List.getElem_cons_zero, List.getElem_cons_succ]
  refine wpAnyH_take (i := 4) (v := ?_) rfl (by kernel_rfl) (by kernel_rfl) (by kernel_rfl) (fun _ _ _ h => h) (Or.inl ⟨by rfl, ?_⟩) hHeld ?_
  rotate_left
  · intro w hSw
    have hSw1 := hSw
    clear hSw
    have ra := (HQ.out.2.2.2.2.2.2.step hSw1.out (by simp)).rw
    have rl := (HQ.out.2.2.2.2.2.2.step hSw1.out (by simp)).lt
    go_simp
    try (with_reducible rfl)
  try simp only [Act.put, List.setIfInBounds_toArray, List.set_cons_zero, List.set_cons_succ, List.getElem_toArray, List.getElem_cons_zero, List.getElem_cons_succ]
  refine wpAnyH_ready (rs := [3]) (by kernel_rfl) (by simp) ?_
  refine AllReadyH.cons rfl (fun K hK => ?_) AllReadyH.nil
  go_simp
  refine (flat3_any y ay capy _ HY.out.1 (HY.out.2.step0 (HQ.out.2.2.2.1.trans hHeld.out)) HCL.out.2.1.1).mono ?_; rintro e U1 ⟨fa, fc, rfl, r1, k1⟩; rw [HCL.out.1.1] at r1 ⊢; have G1 := Lib.hid (And.intro r1 (hHeld.out.trans k1)); clear r1 k1
  go_wp2_with fail
  refine hK.out _ _ (Lib.hid G1.out.2) (fun hHeld2 => ?_)
  clear hK K hHeld
  try simp only [Act.put, List.setIfInBounds_toArray, List.set_cons_zero, List.set_cons_succ, List.getElem_toArray, List.getElem_cons_zero, List.getElem_cons_succ]
  refine wpAnyH_ready (rs := [5]) (by kernel_rfl) (by simp) ?_
  refine AllReadyH.cons rfl (fun K hK => ?_) AllReadyH.nil
  go_simp
  refine (sameR_any y _ _ _ _ U1 G1.out.1 (HQ.out.1.step0 G1.out.2) HCL.out.2.1.1).mono ?_; rintro e U2 ⟨rfl, k2⟩; have G2 := Lib.hid (G1.out.2.trans k2); clear k2
  go_wp2_with fail
  refine hK.out _ _ (Lib.hid G2.out) (fun hHeld3 => ?_)
  clear hK K hHeld2
  try simp only [Act.put, List.setIfInBounds_toArray, List.set_cons_zero, List.set_cons_succ, List.getElem_toArray, List.getElem_cons_zero, List.getElem_cons_succ]
  refine wpAnyH_take (i := 6) (v := ?_) rfl (by kernel_rfl) (by kernel_rfl) (by kernel_rfl) (fun _ _ _ h => h) (Or.inl ⟨by rfl, ?_⟩) hHeld3 ?_
  rotate_left
  · intro w hSw
    have hSw1 := hSw
    clear hSw
    try dsimp only at hSw1
    go_simp
    try (with_reducible rfl)
  try simp only [Act.put, List.setIfInBounds_toArray, List.set_cons_zero, List.set_cons_succ, List.getElem_toArray, List.getElem_cons_zero, List.getElem_cons_succ]
  refine wpAnyH_take (i := 7) (v := ?_) rfl (by kernel_rfl) (by kernel_rfl) (by kernel_rfl) (fun _ _ _ h => h) (Or.inl ⟨by rfl, ?_⟩) hHeld3 ?_
  rotate_left
  · intro w hSw
    have hSw1 := hSw
    clear hSw
    try dsimp only at hSw1
    go_simp
    try (with_reducible rfl)
  try simp only [Act.put, List.setIfInBounds_toArray, List.set_cons_zero, List.set_cons_succ, List.getElem_toArray, List.getElem_cons_zero, List.getElem_cons_succ]
  refine wpAnyH_take (i := 8) (v := ?_) rfl (by kernel_rfl) (by kernel_rfl) (by kernel_rfl) (fun _ _ _ h => h) (Or.inl ⟨by rfl, ?_⟩) hHeld3 ?_
  rotate_left
  · intro w hSw
    have hSw1 := hSw
    clear hSw
    try dsimp only at hSw1
    go_simp
    try (with_reducible rfl)
  try simp only [Act.put, List.setIfInBounds_toArray, List.set_cons_zero, List.set_cons_succ, List.getElem_toArray, List.getElem_cons_zero, List.getElem_cons_succ]
  refine wpAnyH_take (i := 9) (v := ?_) rfl (by kernel_rfl) (by kernel_rfl) (by kernel_rfl) (fun _ _ _ h => h) (Or.inl ⟨by rfl, ?_⟩) hHeld3 ?_
  rotate_left
  · intro w hSw
    have hSw1 := hSw
    clear hSw
    try dsimp only at hSw1
    go_simp
    try (with_reducible rfl)
  try simp only [Act.put, List.setIfInBounds_toArray, List.set_cons_zero, List.set_cons_succ, List.getElem_toArray, List.getElem_cons_zero, List.getElem_cons_succ]
  refine wpAnyH_take (i := 10) (v := ?_) rfl (by kernel_rfl) (by kernel_rfl) (by kernel_rfl) (fun _ _ _ h => h) (Or.inl ⟨by rfl, ?_⟩) hHeld3 ?_
  rotate_left
  · intro w hSw
    have hSw1 := hSw
    clear hSw
    try dsimp only at hSw1
    go_simp
    try (with_reducible rfl)
  try simp only [Act.put, List.setIfInBounds_toArray, List.set_cons_zero, List.set_cons_succ, List.getElem_toArray, List.getElem_cons_zero, List.getElem_cons_succ]
  refine wpAnyH_take (i := 11) (v := ?_) rfl (by kernel_rfl) (by kernel_rfl) (by kernel_rfl) (fun _ _ _ h => h) (Or.inl ⟨by rfl, ?_⟩) hHeld3 ?_
  rotate_left
  · intro w hSw
    have hSw1 := hSw
    clear hSw
    try dsimp only at hSw1
    go_simp
    try (with_reducible rfl)
  try simp only [Act.put, List.setIfInBounds_toArray, List.set_cons_zero, List.set_cons_succ, List.getElem_toArray, List.getElem_cons_zero, List.getElem_cons_succ]
  refine wpAnyH_take (i := 12) (v := undef) rfl (by kernel_rfl) (by kernel_rfl) (by kernel_rfl) (fun _ _ _ h => h) (Or.inr ⟨by kernel_rfl, rfl⟩) hHeld3 ?_
  try simp only [Act.put, List.setIfInBounds_toArray, List.set_cons_zero, List.set_cons_succ, List.getElem_toArray, List.getElem_cons_zero, List.getElem_cons_succ]
  refine wpAnyH_take (i := 13) (v := undef) rfl (by kernel_rfl) (by kernel_rfl) (by kernel_rfl) (fun _ _ _ h => h) (Or.inr ⟨by kernel_rfl, rfl⟩) hHeld3 ?_
  try simp only [Act.put, List.setIfInBounds_toArray, List.set_cons_zero, List.set_cons_succ, List.getElem_toArray, List.getElem_cons_zero, List.getElem_cons_succ]
  refine wpAnyH_take (i := 14) (v := undef) rfl (by kernel_rfl) (by kernel_rfl) (by kernel_rfl) (fun _ _ _ h => h) (Or.inr ⟨by kernel_rfl, rfl⟩) hHeld3 ?_
  try simp only [Act.put, List.setIfInBounds_toArray, List.set_cons_zero, List.set_cons_succ, List.getElem_toArray, List.getElem_cons_zero, List.getElem_cons_succ]
  refine wpAnyH_take (i := 15) (v := undef) rfl (by kernel_rfl) (by kernel_rfl) (by kernel_rfl) (fun _ _ _ h => h) (Or.inr ⟨by kernel_rfl, rfl⟩) hHeld3 ?_
  try simp only [Act.put, List.setIfInBounds_toArray, List.set_cons_zero, List.set_cons_succ, List.getElem_toArray, List.getElem_cons_zero, List.getElem_cons_succ]
  refine wpAnyH_take (i := 16) (v := undef) rfl (by kernel_rfl) (by kernel_rfl) (by kernel_rfl) (fun _ _ _ h => h) (Or.inr ⟨by kernel_rfl, rfl⟩) hHeld3 ?_
  try simp only [Act.put, List.setIfInBounds_toArray, List.set_cons_zero, List.set_cons_succ, List.getElem_toArray, List.getElem_cons_zero, List.getElem_cons_succ]
  refine wpAnyH_take (i := 17) (v := undef) rfl (by kernel_rfl) (by kernel_rfl) (by kernel_rfl) (fun _ _ _ h => h) (Or.inr ⟨by kernel_rfl, rfl⟩) hHeld3 ?_
  try simp only [Act.put, List.setIfInBounds_toArray, List.set_cons_zero, List.set_cons_succ, List.getElem_toArray, List.getElem_cons_zero, List.getElem_cons_succ]
  refine wpAnyH_take (i := 18) (v := undef) rfl (by kernel_rfl) (by kernel_rfl) (by kernel_rfl) (fun _ _ _ h => h) (Or.inr ⟨by kernel_rfl, rfl⟩) hHeld3 ?_
  try simp only [Act.put, List.setIfInBounds_toArray, List.set_cons_zero, List.set_cons_succ, List.getElem_toArray, List.getElem_cons_zero, List.getElem_cons_succ]
  refine wpAnyH_take (i := 19) (v := undef) rfl (by kernel_rfl) (by kernel_rfl) (by kernel_rfl) (fun _ _ _ h => h) (Or.inr ⟨by kernel_rfl, rfl⟩) hHeld3 ?_
  try simp only [Act.put, List.setIfInBounds_toArray, List.set_cons_zero, List.set_cons_succ, List.getElem_toArray, List.getElem_cons_zero, List.getElem_cons_succ]
  refine wpAnyH_take (i := 20) (v := undef) rfl (by kernel_rfl) (by kernel_rfl) (by kernel_rfl) (fun _ _ _ h => h) (Or.inr ⟨by kernel_rfl, rfl⟩) hHeld3 ?_
  try simp only [Act.put, List.setIfInBounds_toArray, List.set_cons_zero, List.set_cons_succ, List.getElem_toArray, List.getElem_cons_zero, List.getElem_cons_succ]
  refine wpAnyH_take (i := 21) (v := undef) rfl (by kernel_rfl) (by kernel_rfl) (by kernel_rfl) (fun _ _ _ h => h) (Or.inr ⟨by kernel_rfl, rfl⟩) hHeld3 ?_
  try simp only [Act.put, List.setIfInBounds_toArray, List.set_cons_zero, List.set_cons_succ, List.getElem_toArray, List.getElem_cons_zero, List.getElem_cons_succ]
  refine wpAnyH_take (i := 22) (v := undef) rfl (by kernel_rfl) (by kernel_rfl) (by kernel_rfl) (fun _ _ _ h => h) (Or.inr ⟨by kernel_rfl, rfl⟩) hHeld3 ?_
  try simp only [Act.put, List.setIfInBounds_toArray, List.set_cons_zero, List.set_cons_succ, List.getElem_toArray, List.getElem_cons_zero, List.getElem_cons_succ]
  refine wpAnyH_take (i := 23) (v := undef) rfl (by kernel_rfl) (by kernel_rfl) (by kernel_rfl) (fun _ _ _ h => h) (Or.inr ⟨by kernel_rfl, rfl⟩) hHeld3 ?_
  try simp only [Act.put, List.setIfInBounds_toArray, List.set_cons_zero, List.set_cons_succ, List.getElem_toArray, List.getElem_cons_zero, List.getElem_cons_succ]
  refine wpAnyH_take (i := 24) (v := undef) rfl (by kernel_rfl) (by kernel_rfl) (by kernel_rfl) (fun _ _ _ h => h) (Or.inr ⟨by kernel_rfl, rfl⟩) hHeld3 ?_
  try simp only [Act.put, List.setIfInBounds_toArray, List.set_cons_zero, List.set_cons_succ, List.getElem_toArray, List.getElem_cons_zero, List.getElem_cons_succ]
  refine wpAnyH_take (i := 25) (v := undef) rfl (by kernel_rfl) (by kernel_rfl) (by kernel_rfl) (fun _ _ _ h => h) (Or.inr ⟨by kernel_rfl, rfl⟩) hHeld3 ?_
  try simp only [Act.put, List.setIfInBounds_toArray, List.set_cons_zero, List.set_cons_succ, List.getElem_toArray, List.getElem_cons_zero, List.getElem_cons_succ]
  refine wpAnyH_take (i := 26) (v := ?_) rfl (by kernel_rfl) (by kernel_rfl) (by kernel_rfl) (fun _ _ _ h => h) (Or.inl ⟨by rfl, ?_⟩) hHeld3 ?_
  rotate_left
  · intro w hSw
    have hSw1 := hSw
    clear hSw
    try dsimp only at hSw1
    go_simp
    try (with_reducible rfl)
  try simp only [Act.put, List.setIfInBounds_toArray, List.set_cons_zero, List.set_cons_succ, List.getElem_toArray, List.getElem_cons_zero, List.getElem_cons_succ]
  refine wpAnyH_take (i := 27) (v := ?_) rfl (by kernel_rfl) (by kernel_rfl) (by kernel_rfl) (fun _ _ _ h => h) (Or.inl ⟨by rfl, ?_⟩) hHeld3 ?_
  rotate_left
  · intro w hSw
    have hSw1 := hSw
    clear hSw
    try dsimp only at hSw1
    go_simp
    try (with_reducible rfl)
  try simp only [Act.put, List.setIfInBounds_toArray, List.set_cons_zero, List.set_cons_succ, List.getElem_toArray, List.getElem_cons_zero, List.getElem_cons_succ]
  refine wpAnyH_done (by kernel_rfl) ?_ _
  obtain ⟨Q2, hQ2⟩ : ∃ V, V = U2 := ⟨_, rfl⟩
  have HS2 : Hid (Step [] [] Q Q2) := by
    rw [hQ2]
    exact G2.out
  rw [← hQ2]
  clear hQ2
  go_upto_region 11 with fail
  refine wp_region_held_drew (S := fun W => Hid (Step [] [] Q2 W)) (by kernel_rfl) (Lib.hid ((Step.refl [] Q2).drew)) (fun hHeld => ?_)
  refine wpAnyH_take (i := 0) (v := ?_) rfl (by kernel_rfl) (by kernel_rfl) (by kernel_rfl) (fun _ _ _ h => h) (Or.inl ⟨by rfl, ?_⟩) hHeld ?_
  rotate_left
  · intro w hSw
    have hSw1 := hSw
    clear hSw
    try dsimp only at hSw1
    go_simp
    try (with_reducible rfl)
  try simp only [Act.put, List.setIfInBounds_toArray, List.set_cons_zero, List.set_cons_succ, List.getElem_toArray, List.getElem_cons_zero, List.getElem_cons_succ]
  refine wpAnyH_take (i := 1) (v := ?_) rfl (by kernel_rfl) (by kernel_rfl) (by kernel_rfl) (fun _ _ _ h => h) (Or.inl ⟨by rfl, ?_⟩) hHeld ?_
  rotate_left
  · intro w hSw
    have hSw1 := hSw
    clear hSw
    try dsimp only at hSw1
    go_simp
    try (with_reducible rfl)
  try simp only [Act.put, List.setIfInBounds_toArray, List.set_cons_zero, List.set_cons_succ, List.getElem_toArray, List.getElem_cons_zero, List.getElem_cons_succ]
  refine wpAnyH_take (i := 2) (v := undef) rfl (by kernel_rfl) (by kernel_rfl) (by kernel_rfl) (fun _ _ _ h => h) (Or.inr ⟨by kernel_rfl, rfl⟩) hHeld ?_
  try simp only [Act.put, List.setIfInBounds_toArray, List.set_cons_zero, List.set_cons_succ, List.getElem_toArray, List.getElem_cons_zero, List.getElem_cons_succ]
  refine wpAnyH_take (i := 3) (v := undef) rfl (by kernel_rfl) (by kernel_rfl) (by kernel_rfl) (fun _ _ _ h => h) (Or.inr ⟨by kernel_rfl, rfl⟩) hHeld ?_
  try simp only [Act.put, List.setIfInBounds_toArray, List.set_cons_zero, List.set_cons_succ, List.getElem_toArray, List.getElem_cons_zero, List.getElem_cons_succ]
  refine wpAnyH_take (i := 4) (v := undef) rfl (by kernel_rfl) (by kernel_rfl) (by kernel_rfl) (fun _ _ _ h => h) (Or.inr ⟨by kernel_rfl, rfl⟩) hHeld ?_
  try simp only [Act.put, List.setIfInBounds_toArray, List.set_cons_zero, List.set_cons_succ, List.getElem_toArray, List.getElem_cons_zero, List.getElem_cons_succ]
  refine wpAnyH_take (i := 5) (v := undef) rfl (by kernel_rfl) (by kernel_rfl) (by kernel_rfl) (fun _ _ _ h => h) (Or.inr ⟨by kernel_rfl, rfl⟩) hHeld ?_
  try simp only [Act.put, List.setIfInBounds_toArray, List.set_cons_zero, List.set_cons_succ, List.getElem_toArray, List.getElem_cons_zero, List.getElem_cons_succ]
  refine wpAnyH_take (i := 6) (v := ?_) rfl (by kernel_rfl) (by kernel_rfl) (by kernel_rfl) (fun _ _ _ h => h) (Or.inl ⟨by rfl, ?_⟩) hHeld ?_
  rotate_left
  · intro w hSw
    have hSw1 := hSw
    clear hSw
    try dsimp only at hSw1
    go_simp
    try (with_reducible rfl)
  try simp only [Act.put, List.setIfInBounds_toArray, List.set_cons_zero, List.set_cons_succ, List.getElem_toArray, List.getElem_cons_zero, List.getElem_cons_succ]
  refine wpAnyH_take (i := 7) (v := ?_) rfl (by kernel_rfl) (by kernel_rfl) (by kernel_rfl) (fun _ _ _ h => h) (Or.inl ⟨by rfl, ?_⟩) hHeld ?_
  rotate_left
  · intro w hSw
    have hSw1 := hSw
    clear hSw
    try dsimp only at hSw1
    go_simp
    try (with_reducible rfl)
  try simp only [Act.put, List.setIfInBounds_toArray, List.set_cons_zero, List.set_cons_succ, List.getElem_toArray, List.getElem_cons_zero, List.getElem_cons_succ]
  refine wpAnyH_done (by kernel_rfl) ?_ _
  go_wp2_with fail
  exact bodyPost_ret (results_tmp rfl _ _ _) rfl ⟨rfl, (HQ.out.2.1.trans HS2.out).drew⟩

theorem kinds10_any (x : Rw) (a : Option Addr) (cap : Nat) (w : World) (hr : Rd w 3 a x.es.length (entcs x.es)) (hl : x.es.length ≤ 4398046511104) (hd : x.data.length ≤ 140737488351232) :
    Calls Try.prog 7 #[rwV x (.slice a x.es.length cap)] w fun e w' => e = .returned (.bool true) ∧ Step [] [] w w' := by
  cases hk : isKind x.kind with
  | false => exact kinds10_none x a cap w hk hr hl hd
  | true =>
    rcases kind_cases hk with h | h | h | h | h
    · exact kinds10_1 x a cap w h hr hl hd
    · exact kinds10_2 x a cap w h hr hl hd
    · exact kinds10_3 x a cap w h hr hl hd
    · exact kinds10_4 x a cap w h hr hl hd
    · exact kinds10_5 x a cap w h hr hl hd

theorem MsgKinds_walk (v0 : Value) (w : World) {b0 : Nat} (h0 : Value.okWide Try.prog w .any b0 24 v0) (o0 : Op Try.prog w 24 v0.cells.toList) :
    Calls Try.prog 7 #[v0] w fun e w' => e = .returned (.bool true) ∧ Below w.heap.size w w' := by
  obtain ⟨x, a, cap, rfl, hr, hl, hd⟩ := raw_in h0 o0
  exact (kinds10_any x a cap w hr hl hd).mono fun e w' ⟨h1, h2⟩ => ⟨h1, h2.below0⟩
set_option maxRecDepth 100000 in
theorem MsgKinds_lifted (os : Os) (started : os.Started) (H : Type) (enc : TypeId × Value → H) :
    ReturnsInHanded {} Try.checked os 7 .any (Rows.msgKindsSpec.pre6 enc Try.prog Try.f7 Rows.msgKindsRow.domain false) (Rows.msgKindsSpec.post enc Try.prog Try.f7 false true false false) := by
  refine returnsInHanded_of_change_sized (C := Try.checked) (by kernel_rfl) started (by kernel_rfl) Try.func7
    (ChangeSpec.witness6 (enc := enc) (C := Try.checked) false ⟨#[], #[.agg #[.int .i64 0, .int .i64 0, .int .i64 0, .int .i64 0, .int .i64 0, .int .i64 0, .int .i64 0, .bool false, .slice none 0 0, .string ⟨#[]⟩]], []⟩ 8 (by kernel_rfl) (by kernel_rfl) (by kernel_rfl) (by kernel_rfl)) ?_
  intro W base args ds gs before hval0 hW hcnd hsz0 _
  have hval : ∀ (j : Nat) t v, Try.f7.params[j]? = some t → args[j]? = some v → Value.okWide Try.prog W .any base t v := hval0
  have hsz : (DataW.weightsEach Try.prog (Try.f7.params.toList ++ Rows.msgKindsSpec.plain.varTypes Try.prog) (ds ++ gs)).all (· ≤ reachBytes) = true := hsz0
  have hW' := hW
  obtain ⟨p, q, hA0, hV, rfl, hfz, hnd⟩ := hW
  have hA : DataW.TrodAll enc Try.prog W 0 (fun _ => true) true Try.f7.params.toList args.toList ds p := hA0
  rw [Try.params7] at hA hval hsz
  obtain ⟨v0, vs0, d0, ds0, p0, q0, hargs, rfl, rfl, h0, r0⟩ := trodAll_cons hA
  obtain ⟨rfl, rfl, rfl⟩ := trodAll_nil r0
  obtain rfl : args = #[v0] := by cases args; simp_all
  obtain ⟨rfl, rfl⟩ := trodVars_none hV
  have lt0 : ∀ x ∈ p0, x.block < W.heap.size := by obtain ⟨m, hm⟩ := h0; exact DataW.trod_lt m _ _ _ hm
  have o0 := op_of hsz (j := 0) rfl rfl h0
  refine (MsgKinds_walk v0 W (hval 0 _ v0 rfl rfl) o0).mono fun e W' ⟨he, bel⟩ => ?_
  subst he
  exact ⟨_, rfl, _, _, _, [], _, [], hW', trodAll_mk1 (shut_bool Try.underlying4 _), (trodAll_cons_mk (Below.trod (by kernel_rfl) (by kernel_rfl) (of_decide_eq_true (by kernel_rfl)) h0 bel lt0) trodAll_mk0), rfl, bel.frame _, fun h => by cases h⟩

/-- The statement. -/
theorem MsgKinds_holds : Rows.MsgKindsSaid :=
  OpenClaim.holds_of_wide 7 Try.f7 rfl rfl rfl rfl rfl rfl rfl ⟨rfl, rfl, rfl, rfl, rfl⟩ rfl rfl rfl rfl rfl (by kernel_rfl) Try.func7 (by kernel_rfl)
    (of_decide_eq_true (by kernel_rfl)) (by unfold Func.isWrapper; rw [if_neg (of_decide_eq_false (by kernel_rfl))]; exact ⟨rfl, rfl⟩)
    (fun os started H enc _ => MsgKinds_lifted os started H enc)
#print axioms MsgKinds_holds
end Go.Proofs.Ytihklmomipidaaa
