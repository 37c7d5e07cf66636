/-
  audit's point.step, point.walk, Verify. Condition: at most 2^40 lines, texts of at most 2^30 bytes.
-/
import Derived.Test.YtdiacfbflbenoaaAuditD
namespace Go.Proofs.Ytdiacfbflbenoaa
open Go.RowKit
set_option linter.unusedSimpArgs false
set_option linter.unusedVariables false
set_option maxRecDepth 100000

theorem Blk.pt {w : World} {b : Nat} {T : TypeId} {u v : Value} (h : Blk w b T #[u, v]) : w.cell? ⟨b, 0, none⟩ = some u ∧ w.cell? ⟨b, 1, none⟩ = some v := by
  refine ⟨?_, ?_⟩ <;> (rw [h.cell]; rfl)
theorem Blk.put2 {w : World} {b : Nat} {T : TypeId} {x y : Value} (h : Blk w b T #[x, y]) (u v : Value) : (w.setCell ⟨b, 0, none⟩ u).cell? ⟨b, 0, none⟩ = some u ∧ ((w.setCell ⟨b, 0, none⟩ u).setCell ⟨b, 1, none⟩ v).cell? ⟨b, 1, none⟩ = some v := by
  have h1 := (Blk.set h 0 u).cell 0
  have h2 := ((Blk.set h 0 u).set 1 v).cell 1
  exact ⟨by simpa using h1, by simpa using h2⟩

set_option maxHeartbeats 4000000 in
theorem step_any (q : Pt) (x : Ln) (w : World) (hx : LnOk x) (hq : -4611686018427387904 ≤ q.count ∧ q.count ≤ 4611686018427387904) (hh : q.hash.length ≤ 1073741824) :
    Calls Try.prog 43 #[.agg #[.int .i64 q.count, Str q.hash], lnV x] w fun e w' => e = .returned (.tuple #[.agg #[.int .i64 (stepPt q x).count, Str (stepPt q x).hash], .bool (stepOk q x)]) ∧ Step [] [] w w' := by
  obtain ⟨count, hash⟩ := q
  simp only at hq hh
  obtain ⟨hq1, hq2⟩ := hq
  have hnx := auditNext_any count hash x
  have s1 : (w.alloc (.cells #[.int .i64 count, Str hash] 57)).heap.size = w.heap.size + 1 := by simp
  have s2 : ((w.alloc (.cells #[.int .i64 count, Str hash] 57)).alloc (.cells (lnc x).toArray 32)).heap.size = w.heap.size + 2 := by simp
  have b1 := (Blk.new (w.alloc (.cells #[.int .i64 count, Str hash] 57)) 32 (lnc x).toArray).alloc (.cells #[.int .i64 0, Str []] 57)
  have b2 := Blk.new ((w.alloc (.cells #[.int .i64 count, Str hash] 57)).alloc (.cells (lnc x).toArray 32)) 57 #[.int .i64 0, Str []]
  rw [s1] at b1
  rw [s2] at b2
  obtain ⟨W0, hW0⟩ : ∃ W0, W0 = ((w.alloc (.cells #[.int .i64 count, Str hash] 57)).alloc (.cells (lnc x).toArray 32)).alloc (.cells #[.int .i64 0, Str []] 57) := ⟨_, rfl⟩
  have H0 : Hid (Blk W0 w.heap.size 57 #[.int .i64 count, Str hash] ∧ Blk W0 (w.heap.size + 1) 32 (lnc x).toArray ∧ Blk W0 (w.heap.size + 2) 57 #[.int .i64 0, Str []] ∧ Step [] [] w W0) := by
    rw [hW0]
    exact ⟨((Blk.new w _ _).alloc _).alloc _, b1, b2, (((Step.refl [] w).alloc _).alloc _).alloc _⟩
  have HW0 := Lib.hid hW0
  clear s1 s2 b1 b2 hW0
  go_enter Try.func43, Try.ntmps43
  go_wp2_with fail
  rw [← HW0.out]
  refine (hnx W0 (by omega) (by omega) hx hh).mono ?_
  rintro e w1 ⟨rfl, k⟩
  have H1 : Hid (Blk w1 w.heap.size 57 #[.int .i64 count, Str hash] ∧ Blk w1 (w.heap.size + 1) 32 (lnc x).toArray ∧ Blk w1 (w.heap.size + 2) 57 #[.int .i64 0, Str []] ∧ Step [] [] w w1) :=
    ⟨H0.out.1.step k (by simp), H0.out.2.1.step k (by simp), H0.out.2.2.1.step k (by simp), H0.out.2.2.2.trans k⟩
  clear k H0 HW0
  have q1 : IntKind.i64.wrap (count + 1) = count + 1 := IntWalk.i64_in _ (by omega)
  cases hr : rightLn x with
  | false =>
    have HR := Lib.hid hr
    have hso : stepOk ⟨count, hash⟩ x = false := by simp [stepOk, hr]
    have HSO := Lib.hid hso
    clear hr hso
    go_wp2_with fail
    refine wp_region_held_drew (S := fun W => Hid (Blk W w.heap.size 57 #[.int .i64 count, Str hash] ∧ Blk W (w.heap.size + 1) 32 (lnc x).toArray ∧ (∃ u v, Blk W (w.heap.size + 2) 57 #[u, v]) ∧ Step [] [] w W)) (by kernel_rfl) (⟨H1.out.1.drew, H1.out.2.1.drew, ⟨_, _, H1.out.2.2.1.drew⟩, H1.out.2.2.2.drew⟩) (fun hHeld => ?_)
    refine wpAnyH_take (i := 0) (v := ?_) rfl (by kernel_rfl) (by kernel_rfl) (by kernel_rfl) (fun _ _ _ h => h) (Or.inl ⟨by rfl, ?_⟩) hHeld ?_
    rotate_left
    · intro w hSw
      have hSw1 := hSw
      clear hSw
      try dsimp only at hSw1
      go_simp
      try (with_reducible rfl)
    try simp only [Act.put, List.setIfInBounds_toArray, List.set_cons_zero, List.set_cons_succ, List.getElem_toArray, List.getElem_cons_zero, List.getElem_cons_succ]
    refine wpAnyH_take (i := 1) (v := ?_) rfl (by kernel_rfl) (by kernel_rfl) (by kernel_rfl) (fun _ _ _ h => h) (Or.inl ⟨by rfl, ?_⟩) hHeld ?_
    rotate_left
    · intro w hSw
      have hSw1 := hSw
      clear hSw
      have hc := hSw1.out.1.pt
      go_simp
      try (with_reducible rfl)
    try simp only [Act.put, List.setIfInBounds_toArray, List.set_cons_zero, List.set_cons_succ, List.getElem_toArray, List.getElem_cons_zero, List.getElem_cons_succ]
    refine wpAnyH_take (i := 2) (v := ?_) rfl (by kernel_rfl) (by kernel_rfl) (by kernel_rfl) (fun _ _ _ h => h) (Or.inl ⟨by rfl, ?_⟩) hHeld ?_
    rotate_left
    · intro w hSw
      have hSw1 := hSw
      clear hSw
      try dsimp only at hSw1
      go_simp
      try (with_reducible rfl)
    try simp only [Act.put, List.setIfInBounds_toArray, List.set_cons_zero, List.set_cons_succ, List.getElem_toArray, List.getElem_cons_zero, List.getElem_cons_succ]
    refine wpAnyH_take (i := 3) (v := ?_) rfl (by kernel_rfl) (by kernel_rfl) (by kernel_rfl) (fun _ _ _ h => h) (Or.inl ⟨by rfl, ?_⟩) hHeld ?_
    rotate_left
    · intro w hSw
      have hSw1 := hSw
      clear hSw
      try dsimp only at hSw1
      go_simp
      try (with_reducible rfl)
    try simp only [Act.put, List.setIfInBounds_toArray, List.set_cons_zero, List.set_cons_succ, List.getElem_toArray, List.getElem_cons_zero, List.getElem_cons_succ]
    refine wpAnyH_take (i := 4) (v := ?_) rfl (by kernel_rfl) (by kernel_rfl) (by kernel_rfl) (fun _ _ _ h => h) (Or.inl ⟨by rfl, ?_⟩) hHeld ?_
    rotate_left
    · intro w hSw
      have hSw1 := hSw
      clear hSw
      try dsimp only at hSw1
      go_simp
      try (with_reducible rfl)
    try simp only [Act.put, List.setIfInBounds_toArray, List.set_cons_zero, List.set_cons_succ, List.getElem_toArray, List.getElem_cons_zero, List.getElem_cons_succ]
    refine wpAnyH_take (i := 5) (v := ?_) rfl (by kernel_rfl) (by kernel_rfl) (by kernel_rfl) (fun _ _ _ h => h) (Or.inl ⟨by rfl, ?_⟩) hHeld ?_
    rotate_left
    · intro w hSw
      have hSw1 := hSw
      clear hSw
      have hc := hSw1.out.2.1.ln
      go_simp
      try (with_reducible rfl)
    try simp only [Act.put, List.setIfInBounds_toArray, List.set_cons_zero, List.set_cons_succ, List.getElem_toArray, List.getElem_cons_zero, List.getElem_cons_succ]
    refine wpAnyH_ready (rs := [6]) (by kernel_rfl) (by simp) ?_
    refine AllReadyH.cons rfl (fun K hK => ?_) AllReadyH.nil
    go_simp
    refine (lineRight_any x _).mono ?_; rintro e w6 ⟨rfl, k6⟩; rw [HR.out]
    go_wp2_with fail
    refine hK.out _ _ (⟨hHeld.out.1.step k6 (by simp), hHeld.out.2.1.step k6 (by simp), hHeld.out.2.2.1.imp fun u hu => hu.imp fun v hv => hv.step k6 (by simp), hHeld.out.2.2.2.trans k6⟩) (fun hHeld2 => ?_)
    clear hK K hHeld
    try simp only [Act.put, List.setIfInBounds_toArray, List.set_cons_zero, List.set_cons_succ, List.getElem_toArray, List.getElem_cons_zero, List.getElem_cons_succ]
    refine wpAnyH_take (i := 7) (v := ?_) rfl (by kernel_rfl) (by kernel_rfl) (by kernel_rfl) (fun _ _ _ h => h) (Or.inl ⟨by rfl, ?_⟩) hHeld2 ?_
    rotate_left
    · intro w hSw
      have hSw1 := hSw
      clear hSw
      try dsimp only at hSw1
      go_simp
      try (with_reducible rfl)
    try simp only [Act.put, List.setIfInBounds_toArray, List.set_cons_zero, List.set_cons_succ, List.getElem_toArray, List.getElem_cons_zero, List.getElem_cons_succ]
    refine wpAnyH_take (i := 8) (v := undef) rfl (by kernel_rfl) (by kernel_rfl) (by kernel_rfl) (fun _ _ _ h => h) (Or.inr ⟨by kernel_rfl, rfl⟩) hHeld2 ?_
    try simp only [Act.put, List.setIfInBounds_toArray, List.set_cons_zero, List.set_cons_succ, List.getElem_toArray, List.getElem_cons_zero, List.getElem_cons_succ]
    refine wpAnyH_take (i := 9) (v := undef) rfl (by kernel_rfl) (by kernel_rfl) (by kernel_rfl) (fun _ _ _ h => h) (Or.inr ⟨by kernel_rfl, rfl⟩) hHeld2 ?_
    try simp only [Act.put, List.setIfInBounds_toArray, List.set_cons_zero, List.set_cons_succ, List.getElem_toArray, List.getElem_cons_zero, List.getElem_cons_succ]
    refine wpAnyH_take (i := 10) (v := undef) rfl (by kernel_rfl) (by kernel_rfl) (by kernel_rfl) (fun _ _ _ h => h) (Or.inr ⟨by kernel_rfl, rfl⟩) hHeld2 ?_
    try simp only [Act.put, List.setIfInBounds_toArray, List.set_cons_zero, List.set_cons_succ, List.getElem_toArray, List.getElem_cons_zero, List.getElem_cons_succ]
    refine wpAnyH_take (i := 11) (v := undef) rfl (by kernel_rfl) (by kernel_rfl) (by kernel_rfl) (fun _ _ _ h => h) (Or.inr ⟨by kernel_rfl, rfl⟩) hHeld2 ?_
    try simp only [Act.put, List.setIfInBounds_toArray, List.set_cons_zero, List.set_cons_succ, List.getElem_toArray, List.getElem_cons_zero, List.getElem_cons_succ]
    refine wpAnyH_take (i := 12) (v := ?_) rfl (by kernel_rfl) (by kernel_rfl) (by kernel_rfl) (fun _ _ _ h => h) (Or.inl ⟨by rfl, ?_⟩) hHeld2 ?_
    rotate_left
    · intro w hSw
      have hSw1 := hSw
      clear hSw
      try dsimp only at hSw1
      go_simp
      try (with_reducible rfl)
    try simp only [Act.put, List.setIfInBounds_toArray, List.set_cons_zero, List.set_cons_succ, List.getElem_toArray, List.getElem_cons_zero, List.getElem_cons_succ]
    refine wpAnyH_take (i := 13) (v := ?_) rfl (by kernel_rfl) (by kernel_rfl) (by kernel_rfl) (fun _ _ _ h => h) (Or.inl ⟨by rfl, ?_⟩) hHeld2 ?_
    rotate_left
    · intro w hSw
      have hSw1 := hSw
      clear hSw
      try dsimp only at hSw1
      go_simp
      try (with_reducible rfl)
    try simp only [Act.put, List.setIfInBounds_toArray, List.set_cons_zero, List.set_cons_succ, List.getElem_toArray, List.getElem_cons_zero, List.getElem_cons_succ]
    refine wpAnyH_take (i := 14) (v := undef) rfl (by kernel_rfl) (by kernel_rfl) (by kernel_rfl) (fun _ _ _ h => h) (Or.inr ⟨by kernel_rfl, rfl⟩) hHeld2 ?_
    try simp only [Act.put, List.setIfInBounds_toArray, List.set_cons_zero, List.set_cons_succ, List.getElem_toArray, List.getElem_cons_zero, List.getElem_cons_succ]
    refine wpAnyH_take (i := 15) (v := undef) rfl (by kernel_rfl) (by kernel_rfl) (by kernel_rfl) (fun _ _ _ h => h) (Or.inr ⟨by kernel_rfl, rfl⟩) hHeld2 ?_
    try simp only [Act.put, List.setIfInBounds_toArray, List.set_cons_zero, List.set_cons_succ, List.getElem_toArray, List.getElem_cons_zero, List.getElem_cons_succ]
    refine wpAnyH_take (i := 16) (v := undef) rfl (by kernel_rfl) (by kernel_rfl) (by kernel_rfl) (fun _ _ _ h => h) (Or.inr ⟨by kernel_rfl, rfl⟩) hHeld2 ?_
    try simp only [Act.put, List.setIfInBounds_toArray, List.set_cons_zero, List.set_cons_succ, List.getElem_toArray, List.getElem_cons_zero, List.getElem_cons_succ]
    refine wpAnyH_take (i := 17) (v := ?_) rfl (by kernel_rfl) (by kernel_rfl) (by kernel_rfl) (fun _ _ _ h => h) (Or.inl ⟨by rfl, ?_⟩) hHeld2 ?_
    rotate_left
    · intro w hSw
      have hSw1 := hSw
      clear hSw
      try dsimp only at hSw1
      go_simp
      try (with_reducible rfl)
    try simp only [Act.put, List.setIfInBounds_toArray, List.set_cons_zero, List.set_cons_succ, List.getElem_toArray, List.getElem_cons_zero, List.getElem_cons_succ]
    obtain ⟨u, v, B⟩ := hHeld2.out.2.2.1
    have b0 := B.pt
    have f0 := B.frozen 0
    have f1 := B.frozen 1
    have dd := B.put2 (.int .i64 (count + 1)) (Str (nextL count hash x))
    have HDD := Lib.hid dd
    refine wpAnyH_ready (rs := [18]) (by kernel_rfl) (by simp) ?_
    refine AllReadyH.cons rfl (fun K hK => ?_) AllReadyH.nil
    go_simp
    go_wp2_with fail
    have n0 : w.heap.size ≠ w.heap.size + 2 := by omega
    have n1 : w.heap.size + 1 ≠ w.heap.size + 2 := by omega
    have n2 : w.heap.size ≤ w.heap.size + 2 := by omega
    refine hK.out _ _ ⟨(hHeld2.out.1.far n0 _).far n0 _, (hHeld2.out.2.1.far n1 _).far n1 _, ⟨_, _, (B.set 0 _).set 1 _⟩, (hHeld2.out.2.2.2.setCell (.inr n2) _).setCell (.inr n2) _⟩ (fun hHeld9 => ?_)
    clear hK K b0 f0 f1 dd n0 n1 n2
    try simp only [Act.put, List.setIfInBounds_toArray, List.set_cons_zero, List.set_cons_succ, List.getElem_toArray, List.getElem_cons_zero, List.getElem_cons_succ]
    refine wpAnyH_take (i := 19) (v := ?_) rfl (by kernel_rfl) (by kernel_rfl) (by kernel_rfl) (fun _ _ _ h => h) (Or.inl ⟨by rfl, ?_⟩) hHeld9 ?_
    rotate_left
    · intro w hSw
      have hSw1 := hSw
      clear hSw
      try dsimp only at hSw1
      go_simp
      try (with_reducible rfl)
    try simp only [Act.put, List.setIfInBounds_toArray, List.set_cons_zero, List.set_cons_succ, List.getElem_toArray, List.getElem_cons_zero, List.getElem_cons_succ]
    refine wpAnyH_done (by kernel_rfl) ?_ _
    go_wp2_with fail
    have dd := HDD.out
    refine bodyPost_ret (v := .tuple #[.agg #[.int .i64 (count + 1), Str (nextL count hash x)], .bool false]) ?_ rfl ⟨by (rw [HSO.out]; rfl), hHeld9.out.2.2.2⟩
    (simp [results, Try.results43, go_sem, dd.1, dd.2]; try omega)
  | true =>
    by_cases he : x.hash = nextL count hash x
    · have he1 : (x.hash == nextL count hash x) = true := by simpa using he
      by_cases hc : count < 1099511627776
      · have HR := Lib.hid hr
        have hso : stepOk ⟨count, hash⟩ x = true := by simp [stepOk, hr, ← he, hc]
        have HSO := Lib.hid hso
        clear hr hso he
        go_wp2_with fail
        refine wp_region_held_drew (S := fun W => Hid (Blk W w.heap.size 57 #[.int .i64 count, Str hash] ∧ Blk W (w.heap.size + 1) 32 (lnc x).toArray ∧ (∃ u v, Blk W (w.heap.size + 2) 57 #[u, v]) ∧ Step [] [] w W)) (by kernel_rfl) (⟨H1.out.1.drew, H1.out.2.1.drew, ⟨_, _, H1.out.2.2.1.drew⟩, H1.out.2.2.2.drew⟩) (fun hHeld => ?_)
        refine wpAnyH_take (i := 0) (v := ?_) rfl (by kernel_rfl) (by kernel_rfl) (by kernel_rfl) (fun _ _ _ h => h) (Or.inl ⟨by rfl, ?_⟩) hHeld ?_
        rotate_left
        · intro w hSw
          have hSw1 := hSw
          clear hSw
          try dsimp only at hSw1
          go_simp
          try (with_reducible rfl)
        try simp only [Act.put, List.setIfInBounds_toArray, List.set_cons_zero, List.set_cons_succ, List.getElem_toArray, List.getElem_cons_zero, List.getElem_cons_succ]
        refine wpAnyH_take (i := 1) (v := ?_) rfl (by kernel_rfl) (by kernel_rfl) (by kernel_rfl) (fun _ _ _ h => h) (Or.inl ⟨by rfl, ?_⟩) hHeld ?_
        rotate_left
        · intro w hSw
          have hSw1 := hSw
          clear hSw
          have hc := hSw1.out.1.pt
          go_simp
          try (with_reducible rfl)
        try simp only [Act.put, List.setIfInBounds_toArray, List.set_cons_zero, List.set_cons_succ, List.getElem_toArray, List.getElem_cons_zero, List.getElem_cons_succ]
        refine wpAnyH_take (i := 2) (v := ?_) rfl (by kernel_rfl) (by kernel_rfl) (by kernel_rfl) (fun _ _ _ h => h) (Or.inl ⟨by rfl, ?_⟩) hHeld ?_
        rotate_left
        · intro w hSw
          have hSw1 := hSw
          clear hSw
          try dsimp only at hSw1
          go_simp
          try (with_reducible rfl)
        try simp only [Act.put, List.setIfInBounds_toArray, List.set_cons_zero, List.set_cons_succ, List.getElem_toArray, List.getElem_cons_zero, List.getElem_cons_succ]
        refine wpAnyH_take (i := 3) (v := ?_) rfl (by kernel_rfl) (by kernel_rfl) (by kernel_rfl) (fun _ _ _ h => h) (Or.inl ⟨by rfl, ?_⟩) hHeld ?_
        rotate_left
        · intro w hSw
          have hSw1 := hSw
          clear hSw
          try dsimp only at hSw1
          go_simp
          try (with_reducible rfl)
        try simp only [Act.put, List.setIfInBounds_toArray, List.set_cons_zero, List.set_cons_succ, List.getElem_toArray, List.getElem_cons_zero, List.getElem_cons_succ]
        refine wpAnyH_take (i := 4) (v := ?_) rfl (by kernel_rfl) (by kernel_rfl) (by kernel_rfl) (fun _ _ _ h => h) (Or.inl ⟨by rfl, ?_⟩) hHeld ?_
        rotate_left
        · intro w hSw
          have hSw1 := hSw
          clear hSw
          try dsimp only at hSw1
          go_simp
          try (with_reducible rfl)
        try simp only [Act.put, List.setIfInBounds_toArray, List.set_cons_zero, List.set_cons_succ, List.getElem_toArray, List.getElem_cons_zero, List.getElem_cons_succ]
        refine wpAnyH_take (i := 5) (v := ?_) rfl (by kernel_rfl) (by kernel_rfl) (by kernel_rfl) (fun _ _ _ h => h) (Or.inl ⟨by rfl, ?_⟩) hHeld ?_
        rotate_left
        · intro w hSw
          have hSw1 := hSw
          clear hSw
          have hc := hSw1.out.2.1.ln
          go_simp
          try (with_reducible rfl)
        try simp only [Act.put, List.setIfInBounds_toArray, List.set_cons_zero, List.set_cons_succ, List.getElem_toArray, List.getElem_cons_zero, List.getElem_cons_succ]
        refine wpAnyH_ready (rs := [6]) (by kernel_rfl) (by simp) ?_
        refine AllReadyH.cons rfl (fun K hK => ?_) AllReadyH.nil
        go_simp
        refine (lineRight_any x _).mono ?_; rintro e w6 ⟨rfl, k6⟩; rw [HR.out]
        go_wp2_with fail
        refine hK.out _ _ (⟨hHeld.out.1.step k6 (by simp), hHeld.out.2.1.step k6 (by simp), hHeld.out.2.2.1.imp fun u hu => hu.imp fun v hv => hv.step k6 (by simp), hHeld.out.2.2.2.trans k6⟩) (fun hHeld2 => ?_)
        clear hK K hHeld
        try simp only [Act.put, List.setIfInBounds_toArray, List.set_cons_zero, List.set_cons_succ, List.getElem_toArray, List.getElem_cons_zero, List.getElem_cons_succ]
        refine wpAnyH_take (i := 7) (v := ?_) rfl (by kernel_rfl) (by kernel_rfl) (by kernel_rfl) (fun _ _ _ h => h) (Or.inl ⟨by rfl, ?_⟩) hHeld2 ?_
        rotate_left
        · intro w hSw
          have hSw1 := hSw
          clear hSw
          try dsimp only at hSw1
          go_simp
          try (with_reducible rfl)
        try simp only [Act.put, List.setIfInBounds_toArray, List.set_cons_zero, List.set_cons_succ, List.getElem_toArray, List.getElem_cons_zero, List.getElem_cons_succ]
        refine wpAnyH_take (i := 8) (v := ?_) rfl (by kernel_rfl) (by kernel_rfl) (by kernel_rfl) (fun _ _ _ h => h) (Or.inl ⟨by rfl, ?_⟩) hHeld2 ?_
        rotate_left
        · intro w hSw
          have hSw1 := hSw
          clear hSw
          try dsimp only at hSw1
          go_simp
          try (with_reducible rfl)
        try simp only [Act.put, List.setIfInBounds_toArray, List.set_cons_zero, List.set_cons_succ, List.getElem_toArray, List.getElem_cons_zero, List.getElem_cons_succ]
        refine wpAnyH_take (i := 9) (v := ?_) rfl (by kernel_rfl) (by kernel_rfl) (by kernel_rfl) (fun _ _ _ h => h) (Or.inl ⟨by rfl, ?_⟩) hHeld2 ?_
        rotate_left
        · intro w hSw
          have hSw1 := hSw
          clear hSw
          have hc := hSw1.out.2.1.ln
          go_simp
          try (with_reducible rfl)
        try simp only [Act.put, List.setIfInBounds_toArray, List.set_cons_zero, List.set_cons_succ, List.getElem_toArray, List.getElem_cons_zero, List.getElem_cons_succ]
        refine wpAnyH_take (i := 10) (v := ?_) rfl (by kernel_rfl) (by kernel_rfl) (by kernel_rfl) (fun _ _ _ h => h) (Or.inl ⟨by rfl, ?_⟩) hHeld2 ?_
        rotate_left
        · intro w hSw
          have hSw1 := hSw
          clear hSw
          try dsimp only at hSw1
          go_simp
          try (with_reducible rfl)
        try simp only [Act.put, List.setIfInBounds_toArray, List.set_cons_zero, List.set_cons_succ, List.getElem_toArray, List.getElem_cons_zero, List.getElem_cons_succ]
        refine wpAnyH_take (i := 11) (v := ?_) rfl (by kernel_rfl) (by kernel_rfl) (by kernel_rfl) (fun _ _ _ h => h) (Or.inl ⟨by rfl, ?_⟩) hHeld2 ?_
        rotate_left
        · intro w hSw
          have hSw1 := hSw
          clear hSw
          try dsimp only at hSw1
          go_simp
          try (with_reducible rfl)
        try simp only [Act.put, List.setIfInBounds_toArray, List.set_cons_zero, List.set_cons_succ, List.getElem_toArray, List.getElem_cons_zero, List.getElem_cons_succ]
        refine wpAnyH_take (i := 12) (v := ?_) rfl (by kernel_rfl) (by kernel_rfl) (by kernel_rfl) (fun _ _ _ h => h) (Or.inl ⟨by rfl, ?_⟩) hHeld2 ?_
        rotate_left
        · intro w hSw
          have hSw1 := hSw
          clear hSw
          try dsimp only at hSw1
          go_simp
          try (with_reducible rfl)
        try simp only [Act.put, List.setIfInBounds_toArray, List.set_cons_zero, List.set_cons_succ, List.getElem_toArray, List.getElem_cons_zero, List.getElem_cons_succ]
        refine wpAnyH_take (i := 13) (v := ?_) rfl (by kernel_rfl) (by kernel_rfl) (by kernel_rfl) (fun _ _ _ h => h) (Or.inl ⟨by rfl, ?_⟩) hHeld2 ?_
        rotate_left
        · intro w hSw
          have hSw1 := hSw
          clear hSw
          try dsimp only at hSw1
          go_simp
          try (with_reducible rfl)
        try simp only [Act.put, List.setIfInBounds_toArray, List.set_cons_zero, List.set_cons_succ, List.getElem_toArray, List.getElem_cons_zero, List.getElem_cons_succ]
        refine wpAnyH_take (i := 14) (v := ?_) rfl (by kernel_rfl) (by kernel_rfl) (by kernel_rfl) (fun _ _ _ h => h) (Or.inl ⟨by rfl, ?_⟩) hHeld2 ?_
        rotate_left
        · intro w hSw
          have hSw1 := hSw
          clear hSw
          try dsimp only at hSw1
          go_simp
          try (with_reducible rfl)
        try simp only [Act.put, List.setIfInBounds_toArray, List.set_cons_zero, List.set_cons_succ, List.getElem_toArray, List.getElem_cons_zero, List.getElem_cons_succ]
        refine wpAnyH_take (i := 15) (v := ?_) rfl (by kernel_rfl) (by kernel_rfl) (by kernel_rfl) (fun _ _ _ h => h) (Or.inl ⟨by rfl, ?_⟩) hHeld2 ?_
        rotate_left
        · intro w hSw
          have hSw1 := hSw
          clear hSw
          have hc := hSw1.out.1.pt
          go_simp
          try (with_reducible rfl)
        try simp only [Act.put, List.setIfInBounds_toArray, List.set_cons_zero, List.set_cons_succ, List.getElem_toArray, List.getElem_cons_zero, List.getElem_cons_succ]
        refine wpAnyH_take (i := 16) (v := ?_) rfl (by kernel_rfl) (by kernel_rfl) (by kernel_rfl) (fun _ _ _ h => h) (Or.inl ⟨by rfl, ?_⟩) hHeld2 ?_
        rotate_left
        · intro w hSw
          have hSw1 := hSw
          clear hSw
          try dsimp only at hSw1
          go_simp
          try (with_reducible rfl)
        try simp only [Act.put, List.setIfInBounds_toArray, List.set_cons_zero, List.set_cons_succ, List.getElem_toArray, List.getElem_cons_zero, List.getElem_cons_succ]
        refine wpAnyH_take (i := 17) (v := ?_) rfl (by kernel_rfl) (by kernel_rfl) (by kernel_rfl) (fun _ _ _ h => h) (Or.inl ⟨by rfl, ?_⟩) hHeld2 ?_
        rotate_left
        · intro w hSw
          have hSw1 := hSw
          clear hSw
          try dsimp only at hSw1
          go_simp
          try (with_reducible rfl)
        try simp only [Act.put, List.setIfInBounds_toArray, List.set_cons_zero, List.set_cons_succ, List.getElem_toArray, List.getElem_cons_zero, List.getElem_cons_succ]
        obtain ⟨u, v, B⟩ := hHeld2.out.2.2.1
        have b0 := B.pt
        have f0 := B.frozen 0
        have f1 := B.frozen 1
        have dd := B.put2 (.int .i64 (count + 1)) (Str (nextL count hash x))
        have HDD := Lib.hid dd
        refine wpAnyH_ready (rs := [18]) (by kernel_rfl) (by simp) ?_
        refine AllReadyH.cons rfl (fun K hK => ?_) AllReadyH.nil
        go_simp
        go_wp2_with fail
        have n0 : w.heap.size ≠ w.heap.size + 2 := by omega
        have n1 : w.heap.size + 1 ≠ w.heap.size + 2 := by omega
        have n2 : w.heap.size ≤ w.heap.size + 2 := by omega
        refine hK.out _ _ ⟨(hHeld2.out.1.far n0 _).far n0 _, (hHeld2.out.2.1.far n1 _).far n1 _, ⟨_, _, (B.set 0 _).set 1 _⟩, (hHeld2.out.2.2.2.setCell (.inr n2) _).setCell (.inr n2) _⟩ (fun hHeld9 => ?_)
        clear hK K b0 f0 f1 dd n0 n1 n2
        try simp only [Act.put, List.setIfInBounds_toArray, List.set_cons_zero, List.set_cons_succ, List.getElem_toArray, List.getElem_cons_zero, List.getElem_cons_succ]
        refine wpAnyH_take (i := 19) (v := ?_) rfl (by kernel_rfl) (by kernel_rfl) (by kernel_rfl) (fun _ _ _ h => h) (Or.inl ⟨by rfl, ?_⟩) hHeld9 ?_
        rotate_left
        · intro w hSw
          have hSw1 := hSw
          clear hSw
          try dsimp only at hSw1
          go_simp
          try (with_reducible rfl)
        try simp only [Act.put, List.setIfInBounds_toArray, List.set_cons_zero, List.set_cons_succ, List.getElem_toArray, List.getElem_cons_zero, List.getElem_cons_succ]
        refine wpAnyH_done (by kernel_rfl) ?_ _
        go_wp2_with fail
        have dd := HDD.out
        refine bodyPost_ret (v := .tuple #[.agg #[.int .i64 (count + 1), Str (nextL count hash x)], .bool true]) ?_ rfl ⟨by (rw [HSO.out]; rfl), hHeld9.out.2.2.2⟩
        (simp [results, Try.results43, go_sem, dd.1, dd.2]; try omega)
      · have HR := Lib.hid hr
        have hso : stepOk ⟨count, hash⟩ x = false := by simp [stepOk, hr, hc]
        have HSO := Lib.hid hso
        clear hr hso he
        go_wp2_with fail
        refine wp_region_held_drew (S := fun W => Hid (Blk W w.heap.size 57 #[.int .i64 count, Str hash] ∧ Blk W (w.heap.size + 1) 32 (lnc x).toArray ∧ (∃ u v, Blk W (w.heap.size + 2) 57 #[u, v]) ∧ Step [] [] w W)) (by kernel_rfl) (⟨H1.out.1.drew, H1.out.2.1.drew, ⟨_, _, H1.out.2.2.1.drew⟩, H1.out.2.2.2.drew⟩) (fun hHeld => ?_)
        refine wpAnyH_take (i := 0) (v := ?_) rfl (by kernel_rfl) (by kernel_rfl) (by kernel_rfl) (fun _ _ _ h => h) (Or.inl ⟨by rfl, ?_⟩) hHeld ?_
        rotate_left
        · intro w hSw
          have hSw1 := hSw
          clear hSw
          try dsimp only at hSw1
          go_simp
          try (with_reducible rfl)
        try simp only [Act.put, List.setIfInBounds_toArray, List.set_cons_zero, List.set_cons_succ, List.getElem_toArray, List.getElem_cons_zero, List.getElem_cons_succ]
        refine wpAnyH_take (i := 1) (v := ?_) rfl (by kernel_rfl) (by kernel_rfl) (by kernel_rfl) (fun _ _ _ h => h) (Or.inl ⟨by rfl, ?_⟩) hHeld ?_
        rotate_left
        · intro w hSw
          have hSw1 := hSw
          clear hSw
          have hc := hSw1.out.1.pt
          go_simp
          try (with_reducible rfl)
        try simp only [Act.put, List.setIfInBounds_toArray, List.set_cons_zero, List.set_cons_succ, List.getElem_toArray, List.getElem_cons_zero, List.getElem_cons_succ]
        refine wpAnyH_take (i := 2) (v := ?_) rfl (by kernel_rfl) (by kernel_rfl) (by kernel_rfl) (fun _ _ _ h => h) (Or.inl ⟨by rfl, ?_⟩) hHeld ?_
        rotate_left
        · intro w hSw
          have hSw1 := hSw
          clear hSw
          try dsimp only at hSw1
          go_simp
          try (with_reducible rfl)
        try simp only [Act.put, List.setIfInBounds_toArray, List.set_cons_zero, List.set_cons_succ, List.getElem_toArray, List.getElem_cons_zero, List.getElem_cons_succ]
        refine wpAnyH_take (i := 3) (v := ?_) rfl (by kernel_rfl) (by kernel_rfl) (by kernel_rfl) (fun _ _ _ h => h) (Or.inl ⟨by rfl, ?_⟩) hHeld ?_
        rotate_left
        · intro w hSw
          have hSw1 := hSw
          clear hSw
          try dsimp only at hSw1
          go_simp
          try (with_reducible rfl)
        try simp only [Act.put, List.setIfInBounds_toArray, List.set_cons_zero, List.set_cons_succ, List.getElem_toArray, List.getElem_cons_zero, List.getElem_cons_succ]
        refine wpAnyH_take (i := 4) (v := ?_) rfl (by kernel_rfl) (by kernel_rfl) (by kernel_rfl) (fun _ _ _ h => h) (Or.inl ⟨by rfl, ?_⟩) hHeld ?_
        rotate_left
        · intro w hSw
          have hSw1 := hSw
          clear hSw
          try dsimp only at hSw1
          go_simp
          try (with_reducible rfl)
        try simp only [Act.put, List.setIfInBounds_toArray, List.set_cons_zero, List.set_cons_succ, List.getElem_toArray, List.getElem_cons_zero, List.getElem_cons_succ]
        refine wpAnyH_take (i := 5) (v := ?_) rfl (by kernel_rfl) (by kernel_rfl) (by kernel_rfl) (fun _ _ _ h => h) (Or.inl ⟨by rfl, ?_⟩) hHeld ?_
        rotate_left
        · intro w hSw
          have hSw1 := hSw
          clear hSw
          have hc := hSw1.out.2.1.ln
          go_simp
          try (with_reducible rfl)
        try simp only [Act.put, List.setIfInBounds_toArray, List.set_cons_zero, List.set_cons_succ, List.getElem_toArray, List.getElem_cons_zero, List.getElem_cons_succ]
        refine wpAnyH_ready (rs := [6]) (by kernel_rfl) (by simp) ?_
        refine AllReadyH.cons rfl (fun K hK => ?_) AllReadyH.nil
        go_simp
        refine (lineRight_any x _).mono ?_; rintro e w6 ⟨rfl, k6⟩; rw [HR.out]
        go_wp2_with fail
        refine hK.out _ _ (⟨hHeld.out.1.step k6 (by simp), hHeld.out.2.1.step k6 (by simp), hHeld.out.2.2.1.imp fun u hu => hu.imp fun v hv => hv.step k6 (by simp), hHeld.out.2.2.2.trans k6⟩) (fun hHeld2 => ?_)
        clear hK K hHeld
        try simp only [Act.put, List.setIfInBounds_toArray, List.set_cons_zero, List.set_cons_succ, List.getElem_toArray, List.getElem_cons_zero, List.getElem_cons_succ]
        refine wpAnyH_take (i := 7) (v := ?_) rfl (by kernel_rfl) (by kernel_rfl) (by kernel_rfl) (fun _ _ _ h => h) (Or.inl ⟨by rfl, ?_⟩) hHeld2 ?_
        rotate_left
        · intro w hSw
          have hSw1 := hSw
          clear hSw
          try dsimp only at hSw1
          go_simp
          try (with_reducible rfl)
        try simp only [Act.put, List.setIfInBounds_toArray, List.set_cons_zero, List.set_cons_succ, List.getElem_toArray, List.getElem_cons_zero, List.getElem_cons_succ]
        refine wpAnyH_take (i := 8) (v := ?_) rfl (by kernel_rfl) (by kernel_rfl) (by kernel_rfl) (fun _ _ _ h => h) (Or.inl ⟨by rfl, ?_⟩) hHeld2 ?_
        rotate_left
        · intro w hSw
          have hSw1 := hSw
          clear hSw
          try dsimp only at hSw1
          go_simp
          try (with_reducible rfl)
        try simp only [Act.put, List.setIfInBounds_toArray, List.set_cons_zero, List.set_cons_succ, List.getElem_toArray, List.getElem_cons_zero, List.getElem_cons_succ]
        refine wpAnyH_take (i := 9) (v := ?_) rfl (by kernel_rfl) (by kernel_rfl) (by kernel_rfl) (fun _ _ _ h => h) (Or.inl ⟨by rfl, ?_⟩) hHeld2 ?_
        rotate_left
        · intro w hSw
          have hSw1 := hSw
          clear hSw
          have hc := hSw1.out.2.1.ln
          go_simp
          try (with_reducible rfl)
        try simp only [Act.put, List.setIfInBounds_toArray, List.set_cons_zero, List.set_cons_succ, List.getElem_toArray, List.getElem_cons_zero, List.getElem_cons_succ]
        refine wpAnyH_take (i := 10) (v := ?_) rfl (by kernel_rfl) (by kernel_rfl) (by kernel_rfl) (fun _ _ _ h => h) (Or.inl ⟨by rfl, ?_⟩) hHeld2 ?_
        rotate_left
        · intro w hSw
          have hSw1 := hSw
          clear hSw
          try dsimp only at hSw1
          go_simp
          try (with_reducible rfl)
        try simp only [Act.put, List.setIfInBounds_toArray, List.set_cons_zero, List.set_cons_succ, List.getElem_toArray, List.getElem_cons_zero, List.getElem_cons_succ]
        refine wpAnyH_take (i := 11) (v := ?_) rfl (by kernel_rfl) (by kernel_rfl) (by kernel_rfl) (fun _ _ _ h => h) (Or.inl ⟨by rfl, ?_⟩) hHeld2 ?_
        rotate_left
        · intro w hSw
          have hSw1 := hSw
          clear hSw
          try dsimp only at hSw1
          go_simp
          try (with_reducible rfl)
        try simp only [Act.put, List.setIfInBounds_toArray, List.set_cons_zero, List.set_cons_succ, List.getElem_toArray, List.getElem_cons_zero, List.getElem_cons_succ]
        refine wpAnyH_take (i := 12) (v := ?_) rfl (by kernel_rfl) (by kernel_rfl) (by kernel_rfl) (fun _ _ _ h => h) (Or.inl ⟨by rfl, ?_⟩) hHeld2 ?_
        rotate_left
        · intro w hSw
          have hSw1 := hSw
          clear hSw
          try dsimp only at hSw1
          go_simp
          try (with_reducible rfl)
        try simp only [Act.put, List.setIfInBounds_toArray, List.set_cons_zero, List.set_cons_succ, List.getElem_toArray, List.getElem_cons_zero, List.getElem_cons_succ]
        refine wpAnyH_take (i := 13) (v := ?_) rfl (by kernel_rfl) (by kernel_rfl) (by kernel_rfl) (fun _ _ _ h => h) (Or.inl ⟨by rfl, ?_⟩) hHeld2 ?_
        rotate_left
        · intro w hSw
          have hSw1 := hSw
          clear hSw
          try dsimp only at hSw1
          go_simp
          try (with_reducible rfl)
        try simp only [Act.put, List.setIfInBounds_toArray, List.set_cons_zero, List.set_cons_succ, List.getElem_toArray, List.getElem_cons_zero, List.getElem_cons_succ]
        refine wpAnyH_take (i := 14) (v := ?_) rfl (by kernel_rfl) (by kernel_rfl) (by kernel_rfl) (fun _ _ _ h => h) (Or.inl ⟨by rfl, ?_⟩) hHeld2 ?_
        rotate_left
        · intro w hSw
          have hSw1 := hSw
          clear hSw
          try dsimp only at hSw1
          go_simp
          try (with_reducible rfl)
        try simp only [Act.put, List.setIfInBounds_toArray, List.set_cons_zero, List.set_cons_succ, List.getElem_toArray, List.getElem_cons_zero, List.getElem_cons_succ]
        refine wpAnyH_take (i := 15) (v := ?_) rfl (by kernel_rfl) (by kernel_rfl) (by kernel_rfl) (fun _ _ _ h => h) (Or.inl ⟨by rfl, ?_⟩) hHeld2 ?_
        rotate_left
        · intro w hSw
          have hSw1 := hSw
          clear hSw
          have hc := hSw1.out.1.pt
          go_simp
          try (with_reducible rfl)
        try simp only [Act.put, List.setIfInBounds_toArray, List.set_cons_zero, List.set_cons_succ, List.getElem_toArray, List.getElem_cons_zero, List.getElem_cons_succ]
        refine wpAnyH_take (i := 16) (v := ?_) rfl (by kernel_rfl) (by kernel_rfl) (by kernel_rfl) (fun _ _ _ h => h) (Or.inl ⟨by rfl, ?_⟩) hHeld2 ?_
        rotate_left
        · intro w hSw
          have hSw1 := hSw
          clear hSw
          try dsimp only at hSw1
          go_simp
          try (with_reducible rfl)
        try simp only [Act.put, List.setIfInBounds_toArray, List.set_cons_zero, List.set_cons_succ, List.getElem_toArray, List.getElem_cons_zero, List.getElem_cons_succ]
        refine wpAnyH_take (i := 17) (v := ?_) rfl (by kernel_rfl) (by kernel_rfl) (by kernel_rfl) (fun _ _ _ h => h) (Or.inl ⟨by rfl, ?_⟩) hHeld2 ?_
        rotate_left
        · intro w hSw
          have hSw1 := hSw
          clear hSw
          try dsimp only at hSw1
          go_simp
          try (with_reducible rfl)
        try simp only [Act.put, List.setIfInBounds_toArray, List.set_cons_zero, List.set_cons_succ, List.getElem_toArray, List.getElem_cons_zero, List.getElem_cons_succ]
        obtain ⟨u, v, B⟩ := hHeld2.out.2.2.1
        have b0 := B.pt
        have f0 := B.frozen 0
        have f1 := B.frozen 1
        have dd := B.put2 (.int .i64 (count + 1)) (Str (nextL count hash x))
        have HDD := Lib.hid dd
        refine wpAnyH_ready (rs := [18]) (by kernel_rfl) (by simp) ?_
        refine AllReadyH.cons rfl (fun K hK => ?_) AllReadyH.nil
        go_simp
        go_wp2_with fail
        have n0 : w.heap.size ≠ w.heap.size + 2 := by omega
        have n1 : w.heap.size + 1 ≠ w.heap.size + 2 := by omega
        have n2 : w.heap.size ≤ w.heap.size + 2 := by omega
        refine hK.out _ _ ⟨(hHeld2.out.1.far n0 _).far n0 _, (hHeld2.out.2.1.far n1 _).far n1 _, ⟨_, _, (B.set 0 _).set 1 _⟩, (hHeld2.out.2.2.2.setCell (.inr n2) _).setCell (.inr n2) _⟩ (fun hHeld9 => ?_)
        clear hK K b0 f0 f1 dd n0 n1 n2
        try simp only [Act.put, List.setIfInBounds_toArray, List.set_cons_zero, List.set_cons_succ, List.getElem_toArray, List.getElem_cons_zero, List.getElem_cons_succ]
        refine wpAnyH_take (i := 19) (v := ?_) rfl (by kernel_rfl) (by kernel_rfl) (by kernel_rfl) (fun _ _ _ h => h) (Or.inl ⟨by rfl, ?_⟩) hHeld9 ?_
        rotate_left
        · intro w hSw
          have hSw1 := hSw
          clear hSw
          try dsimp only at hSw1
          go_simp
          try (with_reducible rfl)
        try simp only [Act.put, List.setIfInBounds_toArray, List.set_cons_zero, List.set_cons_succ, List.getElem_toArray, List.getElem_cons_zero, List.getElem_cons_succ]
        refine wpAnyH_done (by kernel_rfl) ?_ _
        go_wp2_with fail
        have dd := HDD.out
        refine bodyPost_ret (v := .tuple #[.agg #[.int .i64 (count + 1), Str (nextL count hash x)], .bool false]) ?_ rfl ⟨by (rw [HSO.out]; rfl), hHeld9.out.2.2.2⟩
        (simp [results, Try.results43, go_sem, dd.1, dd.2]; try omega)
    · have he1 : (x.hash == nextL count hash x) = false := by simpa using he
      have HR := Lib.hid hr
      have hso : stepOk ⟨count, hash⟩ x = false := by simp [stepOk, hr, he]
      have HSO := Lib.hid hso
      clear hr hso he
      go_wp2_with fail
      refine wp_region_held_drew (S := fun W => Hid (Blk W w.heap.size 57 #[.int .i64 count, Str hash] ∧ Blk W (w.heap.size + 1) 32 (lnc x).toArray ∧ (∃ u v, Blk W (w.heap.size + 2) 57 #[u, v]) ∧ Step [] [] w W)) (by kernel_rfl) (⟨H1.out.1.drew, H1.out.2.1.drew, ⟨_, _, H1.out.2.2.1.drew⟩, H1.out.2.2.2.drew⟩) (fun hHeld => ?_)
      refine wpAnyH_take (i := 0) (v := ?_) rfl (by kernel_rfl) (by kernel_rfl) (by kernel_rfl) (fun _ _ _ h => h) (Or.inl ⟨by rfl, ?_⟩) hHeld ?_
      rotate_left
      · intro w hSw
        have hSw1 := hSw
        clear hSw
        try dsimp only at hSw1
        go_simp
        try (with_reducible rfl)
      try simp only [Act.put, List.setIfInBounds_toArray, List.set_cons_zero, List.set_cons_succ, List.getElem_toArray, List.getElem_cons_zero, List.getElem_cons_succ]
      refine wpAnyH_take (i := 1) (v := ?_) rfl (by kernel_rfl) (by kernel_rfl) (by kernel_rfl) (fun _ _ _ h => h) (Or.inl ⟨by rfl, ?_⟩) hHeld ?_
      rotate_left
      · intro w hSw
        have hSw1 := hSw
        clear hSw
        have hc := hSw1.out.1.pt
        go_simp
        try (with_reducible rfl)
      try simp only [Act.put, List.setIfInBounds_toArray, List.set_cons_zero, List.set_cons_succ, List.getElem_toArray, List.getElem_cons_zero, List.getElem_cons_succ]
      refine wpAnyH_take (i := 2) (v := ?_) rfl (by kernel_rfl) (by kernel_rfl) (by kernel_rfl) (fun _ _ _ h => h) (Or.inl ⟨by rfl, ?_⟩) hHeld ?_
      rotate_left
      · intro w hSw
        have hSw1 := hSw
        clear hSw
        try dsimp only at hSw1
        go_simp
        try (with_reducible rfl)
      try simp only [Act.put, List.setIfInBounds_toArray, List.set_cons_zero, List.set_cons_succ, List.getElem_toArray, List.getElem_cons_zero, List.getElem_cons_succ]
      refine wpAnyH_take (i := 3) (v := ?_) rfl (by kernel_rfl) (by kernel_rfl) (by kernel_rfl) (fun _ _ _ h => h) (Or.inl ⟨by rfl, ?_⟩) hHeld ?_
      rotate_left
      · intro w hSw
        have hSw1 := hSw
        clear hSw
        try dsimp only at hSw1
        go_simp
        try (with_reducible rfl)
      try simp only [Act.put, List.setIfInBounds_toArray, List.set_cons_zero, List.set_cons_succ, List.getElem_toArray, List.getElem_cons_zero, List.getElem_cons_succ]
      refine wpAnyH_take (i := 4) (v := ?_) rfl (by kernel_rfl) (by kernel_rfl) (by kernel_rfl) (fun _ _ _ h => h) (Or.inl ⟨by rfl, ?_⟩) hHeld ?_
      rotate_left
      · intro w hSw
        have hSw1 := hSw
        clear hSw
        try dsimp only at hSw1
        go_simp
        try (with_reducible rfl)
      try simp only [Act.put, List.setIfInBounds_toArray, List.set_cons_zero, List.set_cons_succ, List.getElem_toArray, List.getElem_cons_zero, List.getElem_cons_succ]
      refine wpAnyH_take (i := 5) (v := ?_) rfl (by kernel_rfl) (by kernel_rfl) (by kernel_rfl) (fun _ _ _ h => h) (Or.inl ⟨by rfl, ?_⟩) hHeld ?_
      rotate_left
      · intro w hSw
        have hSw1 := hSw
        clear hSw
        have hc := hSw1.out.2.1.ln
        go_simp
        try (with_reducible rfl)
      try simp only [Act.put, List.setIfInBounds_toArray, List.set_cons_zero, List.set_cons_succ, List.getElem_toArray, List.getElem_cons_zero, List.getElem_cons_succ]
      refine wpAnyH_ready (rs := [6]) (by kernel_rfl) (by simp) ?_
      refine AllReadyH.cons rfl (fun K hK => ?_) AllReadyH.nil
      go_simp
      refine (lineRight_any x _).mono ?_; rintro e w6 ⟨rfl, k6⟩; rw [HR.out]
      go_wp2_with fail
      refine hK.out _ _ (⟨hHeld.out.1.step k6 (by simp), hHeld.out.2.1.step k6 (by simp), hHeld.out.2.2.1.imp fun u hu => hu.imp fun v hv => hv.step k6 (by simp), hHeld.out.2.2.2.trans k6⟩) (fun hHeld2 => ?_)
      clear hK K hHeld
      try simp only [Act.put, List.setIfInBounds_toArray, List.set_cons_zero, List.set_cons_succ, List.getElem_toArray, List.getElem_cons_zero, List.getElem_cons_succ]
      refine wpAnyH_take (i := 7) (v := ?_) rfl (by kernel_rfl) (by kernel_rfl) (by kernel_rfl) (fun _ _ _ h => h) (Or.inl ⟨by rfl, ?_⟩) hHeld2 ?_
      rotate_left
      · intro w hSw
        have hSw1 := hSw
        clear hSw
        try dsimp only at hSw1
        go_simp
        try (with_reducible rfl)
      try simp only [Act.put, List.setIfInBounds_toArray, List.set_cons_zero, List.set_cons_succ, List.getElem_toArray, List.getElem_cons_zero, List.getElem_cons_succ]
      refine wpAnyH_take (i := 8) (v := ?_) rfl (by kernel_rfl) (by kernel_rfl) (by kernel_rfl) (fun _ _ _ h => h) (Or.inl ⟨by rfl, ?_⟩) hHeld2 ?_
      rotate_left
      · intro w hSw
        have hSw1 := hSw
        clear hSw
        try dsimp only at hSw1
        go_simp
        try (with_reducible rfl)
      try simp only [Act.put, List.setIfInBounds_toArray, List.set_cons_zero, List.set_cons_succ, List.getElem_toArray, List.getElem_cons_zero, List.getElem_cons_succ]
      refine wpAnyH_take (i := 9) (v := ?_) rfl (by kernel_rfl) (by kernel_rfl) (by kernel_rfl) (fun _ _ _ h => h) (Or.inl ⟨by rfl, ?_⟩) hHeld2 ?_
      rotate_left
      · intro w hSw
        have hSw1 := hSw
        clear hSw
        have hc := hSw1.out.2.1.ln
        go_simp
        try (with_reducible rfl)
      try simp only [Act.put, List.setIfInBounds_toArray, List.set_cons_zero, List.set_cons_succ, List.getElem_toArray, List.getElem_cons_zero, List.getElem_cons_succ]
      refine wpAnyH_take (i := 10) (v := ?_) rfl (by kernel_rfl) (by kernel_rfl) (by kernel_rfl) (fun _ _ _ h => h) (Or.inl ⟨by rfl, ?_⟩) hHeld2 ?_
      rotate_left
      · intro w hSw
        have hSw1 := hSw
        clear hSw
        try dsimp only at hSw1
        go_simp
        try (with_reducible rfl)
      try simp only [Act.put, List.setIfInBounds_toArray, List.set_cons_zero, List.set_cons_succ, List.getElem_toArray, List.getElem_cons_zero, List.getElem_cons_succ]
      refine wpAnyH_take (i := 11) (v := ?_) rfl (by kernel_rfl) (by kernel_rfl) (by kernel_rfl) (fun _ _ _ h => h) (Or.inl ⟨by rfl, ?_⟩) hHeld2 ?_
      rotate_left
      · intro w hSw
        have hSw1 := hSw
        clear hSw
        try dsimp only at hSw1
        go_simp
        try (with_reducible rfl)
      try simp only [Act.put, List.setIfInBounds_toArray, List.set_cons_zero, List.set_cons_succ, List.getElem_toArray, List.getElem_cons_zero, List.getElem_cons_succ]
      refine wpAnyH_take (i := 12) (v := ?_) rfl (by kernel_rfl) (by kernel_rfl) (by kernel_rfl) (fun _ _ _ h => h) (Or.inl ⟨by rfl, ?_⟩) hHeld2 ?_
      rotate_left
      · intro w hSw
        have hSw1 := hSw
        clear hSw
        try dsimp only at hSw1
        go_simp
        try (with_reducible rfl)
      try simp only [Act.put, List.setIfInBounds_toArray, List.set_cons_zero, List.set_cons_succ, List.getElem_toArray, List.getElem_cons_zero, List.getElem_cons_succ]
      refine wpAnyH_take (i := 13) (v := ?_) rfl (by kernel_rfl) (by kernel_rfl) (by kernel_rfl) (fun _ _ _ h => h) (Or.inl ⟨by rfl, ?_⟩) hHeld2 ?_
      rotate_left
      · intro w hSw
        have hSw1 := hSw
        clear hSw
        try dsimp only at hSw1
        go_simp
        try (with_reducible rfl)
      try simp only [Act.put, List.setIfInBounds_toArray, List.set_cons_zero, List.set_cons_succ, List.getElem_toArray, List.getElem_cons_zero, List.getElem_cons_succ]
      refine wpAnyH_take (i := 14) (v := undef) rfl (by kernel_rfl) (by kernel_rfl) (by kernel_rfl) (fun _ _ _ h => h) (Or.inr ⟨by kernel_rfl, rfl⟩) hHeld2 ?_
      try simp only [Act.put, List.setIfInBounds_toArray, List.set_cons_zero, List.set_cons_succ, List.getElem_toArray, List.getElem_cons_zero, List.getElem_cons_succ]
      refine wpAnyH_take (i := 15) (v := undef) rfl (by kernel_rfl) (by kernel_rfl) (by kernel_rfl) (fun _ _ _ h => h) (Or.inr ⟨by kernel_rfl, rfl⟩) hHeld2 ?_
      try simp only [Act.put, List.setIfInBounds_toArray, List.set_cons_zero, List.set_cons_succ, List.getElem_toArray, List.getElem_cons_zero, List.getElem_cons_succ]
      refine wpAnyH_take (i := 16) (v := undef) rfl (by kernel_rfl) (by kernel_rfl) (by kernel_rfl) (fun _ _ _ h => h) (Or.inr ⟨by kernel_rfl, rfl⟩) hHeld2 ?_
      try simp only [Act.put, List.setIfInBounds_toArray, List.set_cons_zero, List.set_cons_succ, List.getElem_toArray, List.getElem_cons_zero, List.getElem_cons_succ]
      refine wpAnyH_take (i := 17) (v := ?_) rfl (by kernel_rfl) (by kernel_rfl) (by kernel_rfl) (fun _ _ _ h => h) (Or.inl ⟨by rfl, ?_⟩) hHeld2 ?_
      rotate_left
      · intro w hSw
        have hSw1 := hSw
        clear hSw
        try dsimp only at hSw1
        go_simp
        try (with_reducible rfl)
      try simp only [Act.put, List.setIfInBounds_toArray, List.set_cons_zero, List.set_cons_succ, List.getElem_toArray, List.getElem_cons_zero, List.getElem_cons_succ]
      obtain ⟨u, v, B⟩ := hHeld2.out.2.2.1
      have b0 := B.pt
      have f0 := B.frozen 0
      have f1 := B.frozen 1
      have dd := B.put2 (.int .i64 (count + 1)) (Str (nextL count hash x))
      have HDD := Lib.hid dd
      refine wpAnyH_ready (rs := [18]) (by kernel_rfl) (by simp) ?_
      refine AllReadyH.cons rfl (fun K hK => ?_) AllReadyH.nil
      go_simp
      go_wp2_with fail
      have n0 : w.heap.size ≠ w.heap.size + 2 := by omega
      have n1 : w.heap.size + 1 ≠ w.heap.size + 2 := by omega
      have n2 : w.heap.size ≤ w.heap.size + 2 := by omega
      refine hK.out _ _ ⟨(hHeld2.out.1.far n0 _).far n0 _, (hHeld2.out.2.1.far n1 _).far n1 _, ⟨_, _, (B.set 0 _).set 1 _⟩, (hHeld2.out.2.2.2.setCell (.inr n2) _).setCell (.inr n2) _⟩ (fun hHeld9 => ?_)
      clear hK K b0 f0 f1 dd n0 n1 n2
      try simp only [Act.put, List.setIfInBounds_toArray, List.set_cons_zero, List.set_cons_succ, List.getElem_toArray, List.getElem_cons_zero, List.getElem_cons_succ]
      refine wpAnyH_take (i := 19) (v := ?_) rfl (by kernel_rfl) (by kernel_rfl) (by kernel_rfl) (fun _ _ _ h => h) (Or.inl ⟨by rfl, ?_⟩) hHeld9 ?_
      rotate_left
      · intro w hSw
        have hSw1 := hSw
        clear hSw
        try dsimp only at hSw1
        go_simp
        try (with_reducible rfl)
      try simp only [Act.put, List.setIfInBounds_toArray, List.set_cons_zero, List.set_cons_succ, List.getElem_toArray, List.getElem_cons_zero, List.getElem_cons_succ]
      refine wpAnyH_done (by kernel_rfl) ?_ _
      go_wp2_with fail
      have dd := HDD.out
      refine bodyPost_ret (v := .tuple #[.agg #[.int .i64 (count + 1), Str (nextL count hash x)], .bool false]) ?_ rfl ⟨by (rw [HSO.out]; rfl), hHeld9.out.2.2.2⟩
      (simp [results, Try.results43, go_sem, dd.1, dd.2]; try omega)

end Go.Proofs.Ytdiacfbflbenoaa
