/-
  TokenUnlike: tokens under one secret are alike just if the user and the revision are. The row lists utf8's two tables as Go lays them. No condition beyond the row's.
-/
import Derived.Test.YtoabhjngcajmiaaDoorTokenLaw
namespace Go.Proofs.YtoabhjngcajmiaaDoor
open Go.RowKit Go.Lib Go.ChangeShapes Go.WideShapes Go.ChangeAt
set_option linter.unusedSimpArgs false
set_option linter.unusedVariables false

theorem okWide_array {P : Program} {w : World} {r : Reach} {base : Nat} {t e : TypeId} {n : Nat} {v : Value} (ht : P.underlying t = some (.array n e)) (h : Value.okWide P w r base t v) : ∃ cs, v = .agg cs ∧ cs.size = P.cellsOf t := by
  simp only [Value.okWide, ht] at h
  obtain ⟨cs, h1, h2, _⟩ := h
  exact ⟨cs, h1, h2⟩

set_option maxHeartbeats 2000000 in
theorem unlike_any (s u0 u1 : List UInt8) (r0 r1 : Int) (w : World) (hs : s.length ≤ 140737488351232) (hu0 : u0.length ≤ 140737488351232) (hu1 : u1.length ≤ 140737488351232) (hT : Tabs w) :
    Calls Tryd.prog 6 #[Str s, .agg #[Str u0, Str u1], .agg #[.int .i64 r0, .int .i64 r1]] w fun e w' => e = .returned (.bool true) ∧ Step [] [] w w' := by
  have HT := Lib.hid hT
  clear hT
  have h0 : (w.alloc (.cells #[Str u0, Str u1] 28)).heap.size = w.heap.size + 1 := by simp
  have B1 := (Blk.new w 28 #[Str u0, Str u1]).alloc (.cells #[.int .i64 r0, .int .i64 r1] 29)
  have B2 := Blk.new (w.alloc (.cells #[Str u0, Str u1] 28)) 29 #[.int .i64 r0, .int .i64 r1]
  rw [h0] at B2
  have HB : Hid (Blk ((w.alloc (.cells #[Str u0, Str u1] 28)).alloc (.cells #[.int .i64 r0, .int .i64 r1] 29)) w.heap.size 28 #[Str u0, Str u1] ∧ Blk ((w.alloc (.cells #[Str u0, Str u1] 28)).alloc (.cells #[.int .i64 r0, .int .i64 r1] 29)) (w.heap.size + 1) 29 #[.int .i64 r0, .int .i64 r1] ∧ Step [] [] w ((w.alloc (.cells #[Str u0, Str u1] 28)).alloc (.cells #[.int .i64 r0, .int .i64 r1] 29))) :=
    ⟨B1, B2, ((Step.refl [] w).alloc _).alloc _⟩
  clear B1 B2 h0
  go_enter Tryd.func6, Tryd.ntmps6
  go_wp2_with fail
  refine (awake_true _ (HT.out.step HB.out.2.2)).mono ?_
  rintro e w1 ⟨rfl, k1⟩
  have H1 : Hid (Blk w1 w.heap.size 28 #[Str u0, Str u1] ∧ Blk w1 (w.heap.size + 1) 29 #[.int .i64 r0, .int .i64 r1] ∧ Step [] [] w w1) := ⟨HB.out.1.step k1 (by simp), HB.out.2.1.step k1 (by simp), HB.out.2.2.trans k1⟩
  clear k1 HB
  have HT1 := Lib.hid (HT.out.step H1.out.2.2)
  have c0 : w1.cell? ⟨w.heap.size, 0, none⟩ = some (Str u0) := by have := H1.out.1.cell 0; simpa using this
  have c1 : w1.cell? ⟨w.heap.size, 1, none⟩ = some (Str u1) := by have := H1.out.1.cell 1; simpa using this
  have d0 : w1.cell? ⟨w.heap.size + 1, 0, none⟩ = some (.int .i64 r0) := by have := H1.out.2.1.cell 0; simpa using this
  have d1 : w1.cell? ⟨w.heap.size + 1, 1, none⟩ = some (.int .i64 r1) := by have := H1.out.2.1.cell 1; simpa using this
  by_cases hl : s.length ≤ 2000
  · have hl' : ¬ (2000 : Int) < s.length := by omega
    by_cases hl2 : u0.length ≤ 2000
    · have hl2' : ¬ (2000 : Int) < u0.length := by omega
      by_cases hl3 : u1.length ≤ 2000
      · have hl3' : ¬ (2000 : Int) < u1.length := by omega
        have m0 := fun w hT => mint_any s u0 r0 w (by omega) (by omega) hT
        have m1 := fun w hT => mint_any s u1 r1 w (by omega) (by omega) hT
        have hri := fun h => mint_inj s u0 u1 r0 r1 h
        have hrm := read_mint s u0 r0
        have hla := mint_len s u0 r0
        have hcong : u0 = u1 → r0 = r1 → mintL s u0 r0 = mintL s u1 r1 := by intro e1 e2; rw [e1, e2]
        generalize mintL s u0 r0 = a at *
        generalize mintL s u1 r1 = b at *
        have M0 := Lib.hid m0
        have M1 := Lib.hid m1
        have HR := Lib.hid (And.intro hri (And.intro hrm hcong))
        clear m0 m1 hri hrm hcong
        go_wp2_with fail
        refine wp_region_held_drew (S := fun W => (W.cell? ⟨w.heap.size, 0, none⟩ = some (Str u0) ∧ W.cell? ⟨w.heap.size, 1, none⟩ = some (Str u1) ∧ W.cell? ⟨w.heap.size + 1, 0, none⟩ = some (.int .i64 r0) ∧ W.cell? ⟨w.heap.size + 1, 1, none⟩ = some (.int .i64 r1)) ∧ Hid (Tabs W ∧ Step [] [] w W)) (by kernel_rfl) (⟨⟨c0, c1, d0, d1⟩, HT1.out.step (Step.refl [] w1).drew, H1.out.2.2.drew⟩) (fun hHeld => ?_)
        clear c0 c1 d0 d1
        refine wpAnyH_take (i := 0) (v := ?_) rfl (by kernel_rfl) (by kernel_rfl) (by kernel_rfl) (fun _ _ _ h => h) (Or.inl ⟨by rfl, ?_⟩) hHeld ?_
        rotate_left
        · intro w hSw
          have hSw1 := hSw
          clear hSw
          try dsimp only at hSw1
          go_simp
          try (with_reducible rfl)
        try simp only [Act.put, List.setIfInBounds_toArray, List.set_cons_zero, List.set_cons_succ, List.getElem_toArray, List.getElem_cons_zero, List.getElem_cons_succ]
        refine wpAnyH_take (i := 1) (v := ?_) rfl (by kernel_rfl) (by kernel_rfl) (by kernel_rfl) (fun _ _ _ h => h) (Or.inl ⟨by rfl, ?_⟩) hHeld ?_
        rotate_left
        · intro w hSw
          have hSw1 := hSw
          clear hSw
          try dsimp only at hSw1
          go_simp
          try (with_reducible rfl)
        try simp only [Act.put, List.setIfInBounds_toArray, List.set_cons_zero, List.set_cons_succ, List.getElem_toArray, List.getElem_cons_zero, List.getElem_cons_succ]
        refine wpAnyH_take (i := 2) (v := ?_) rfl (by kernel_rfl) (by kernel_rfl) (by kernel_rfl) (fun _ _ _ h => h) (Or.inl ⟨by rfl, ?_⟩) hHeld ?_
        rotate_left
        · intro w hSw
          have hSw1 := hSw
          clear hSw
          try dsimp only at hSw1
          go_simp
          try (with_reducible rfl)
        try simp only [Act.put, List.setIfInBounds_toArray, List.set_cons_zero, List.set_cons_succ, List.getElem_toArray, List.getElem_cons_zero, List.getElem_cons_succ]
        refine wpAnyH_take (i := 3) (v := ?_) rfl (by kernel_rfl) (by kernel_rfl) (by kernel_rfl) (fun _ _ _ h => h) (Or.inl ⟨by rfl, ?_⟩) hHeld ?_
        rotate_left
        · intro w hSw
          have hSw1 := hSw
          clear hSw
          try dsimp only at hSw1
          go_simp
          try (with_reducible rfl)
        try simp only [Act.put, List.setIfInBounds_toArray, List.set_cons_zero, List.set_cons_succ, List.getElem_toArray, List.getElem_cons_zero, List.getElem_cons_succ]
        refine wpAnyH_take (i := 4) (v := ?_) rfl (by kernel_rfl) (by kernel_rfl) (by kernel_rfl) (fun _ _ _ h => h) (Or.inl ⟨by rfl, ?_⟩) hHeld ?_
        rotate_left
        · intro w hSw
          have hSw1 := hSw
          clear hSw
          try dsimp only at hSw1
          go_simp
          try (with_reducible rfl)
        try simp only [Act.put, List.setIfInBounds_toArray, List.set_cons_zero, List.set_cons_succ, List.getElem_toArray, List.getElem_cons_zero, List.getElem_cons_succ]
        refine wpAnyH_take (i := 6) (v := ?_) rfl (by kernel_rfl) (by kernel_rfl) (by kernel_rfl) (fun _ _ _ h => h) (Or.inl ⟨by rfl, ?_⟩) hHeld ?_
        rotate_left
        · intro w hSw
          have hSw1 := hSw
          clear hSw
          try dsimp only at hSw1
          go_simp
          try (with_reducible rfl)
        try simp only [Act.put, List.setIfInBounds_toArray, List.set_cons_zero, List.set_cons_succ, List.getElem_toArray, List.getElem_cons_zero, List.getElem_cons_succ]
        refine wpAnyH_take (i := 7) (v := ?_) rfl (by kernel_rfl) (by kernel_rfl) (by kernel_rfl) (fun _ _ _ h => h) (Or.inl ⟨by rfl, ?_⟩) hHeld ?_
        rotate_left
        · intro w hSw
          have hSw1 := hSw
          clear hSw
          try dsimp only at hSw1
          go_simp
          try (with_reducible rfl)
        try simp only [Act.put, List.setIfInBounds_toArray, List.set_cons_zero, List.set_cons_succ, List.getElem_toArray, List.getElem_cons_zero, List.getElem_cons_succ]
        refine wpAnyH_take (i := 8) (v := ?_) rfl (by kernel_rfl) (by kernel_rfl) (by kernel_rfl) (fun _ _ _ h => h) (Or.inl ⟨by rfl, ?_⟩) hHeld ?_
        rotate_left
        · intro w hSw
          have hSw1 := hSw
          clear hSw
          try dsimp only at hSw1
          go_simp
          try (with_reducible rfl)
        try simp only [Act.put, List.setIfInBounds_toArray, List.set_cons_zero, List.set_cons_succ, List.getElem_toArray, List.getElem_cons_zero, List.getElem_cons_succ]
        refine wpAnyH_take (i := 9) (v := ?_) rfl (by kernel_rfl) (by kernel_rfl) (by kernel_rfl) (fun _ _ _ h => h) (Or.inl ⟨by rfl, ?_⟩) hHeld ?_
        rotate_left
        · intro w hSw
          have hSw1 := hSw
          clear hSw
          try dsimp only at hSw1
          go_simp
          try (with_reducible rfl)
        try simp only [Act.put, List.setIfInBounds_toArray, List.set_cons_zero, List.set_cons_succ, List.getElem_toArray, List.getElem_cons_zero, List.getElem_cons_succ]
        refine wpAnyH_take (i := 10) (v := ?_) rfl (by kernel_rfl) (by kernel_rfl) (by kernel_rfl) (fun _ _ _ h => h) (Or.inl ⟨by rfl, ?_⟩) hHeld ?_
        rotate_left
        · intro w hSw
          have hSw1 := hSw
          clear hSw
          try dsimp only at hSw1
          go_simp
          try (with_reducible rfl)
        try simp only [Act.put, List.setIfInBounds_toArray, List.set_cons_zero, List.set_cons_succ, List.getElem_toArray, List.getElem_cons_zero, List.getElem_cons_succ]
        refine wpAnyH_ready (rs := [5]) (by kernel_rfl) (by simp) ?_
        refine AllReadyH.cons rfl (fun K hK => ?_) AllReadyH.nil
        go_simp
        refine (M0.out _ hHeld.2.out.1).mono ?_; rintro e w5 ⟨rfl, k5⟩
        go_wp2_with fail
        refine hK.out _ _ (⟨⟨k5.cell hHeld.1.1 (by simp), k5.cell hHeld.1.2.1 (by simp), k5.cell hHeld.1.2.2.1 (by simp), k5.cell hHeld.1.2.2.2 (by simp)⟩, ⟨hHeld.2.out.1.step k5, hHeld.2.out.2.trans k5⟩⟩) (fun hHeld2 => ?_)
        clear hK K hHeld
        try simp only [Act.put, List.setIfInBounds_toArray, List.set_cons_zero, List.set_cons_succ, List.getElem_toArray, List.getElem_cons_zero, List.getElem_cons_succ]
        refine wpAnyH_ready (rs := [11]) (by kernel_rfl) (by simp) ?_
        refine AllReadyH.cons rfl (fun K hK => ?_) AllReadyH.nil
        go_simp
        refine (M1.out _ hHeld2.2.out.1).mono ?_; rintro e w6 ⟨rfl, k5⟩
        go_wp2_with fail
        refine hK.out _ _ (⟨⟨k5.cell hHeld2.1.1 (by simp), k5.cell hHeld2.1.2.1 (by simp), k5.cell hHeld2.1.2.2.1 (by simp), k5.cell hHeld2.1.2.2.2 (by simp)⟩, ⟨hHeld2.2.out.1.step k5, hHeld2.2.out.2.trans k5⟩⟩) (fun hHeld3 => ?_)
        clear hK K hHeld2
        try simp only [Act.put, List.setIfInBounds_toArray, List.set_cons_zero, List.set_cons_succ, List.getElem_toArray, List.getElem_cons_zero, List.getElem_cons_succ]
        refine wpAnyH_take (i := 12) (v := ?_) rfl (by kernel_rfl) (by kernel_rfl) (by kernel_rfl) (fun _ _ _ h => h) (Or.inl ⟨by rfl, ?_⟩) hHeld3 ?_
        rotate_left
        · intro w hSw
          have hSw1 := hSw
          clear hSw
          try dsimp only at hSw1
          go_simp
          try (with_reducible rfl)
        try simp only [Act.put, List.setIfInBounds_toArray, List.set_cons_zero, List.set_cons_succ, List.getElem_toArray, List.getElem_cons_zero, List.getElem_cons_succ]
        refine wpAnyH_take (i := 13) (v := ?_) rfl (by kernel_rfl) (by kernel_rfl) (by kernel_rfl) (fun _ _ _ h => h) (Or.inl ⟨by rfl, ?_⟩) hHeld3 ?_
        rotate_left
        · intro w hSw
          have hSw1 := hSw
          clear hSw
          try dsimp only at hSw1
          go_simp
          try (with_reducible rfl)
        try simp only [Act.put, List.setIfInBounds_toArray, List.set_cons_zero, List.set_cons_succ, List.getElem_toArray, List.getElem_cons_zero, List.getElem_cons_succ]
        refine wpAnyH_done (by kernel_rfl) ?_ _
        rename World => w9
        obtain ⟨⟨c0, c1, d0, d1⟩, HS⟩ := hHeld3
        by_cases ha : a = []
        · subst ha
          go_wp2_with fail
          go_ret
          exact ⟨rfl, HS.out.2⟩
        · obtain ⟨x, a', rfl⟩ : ∃ x a', a = x :: a' := by
            cases a with
            | nil => exact absurd rfl ha
            | cons x a' => exact ⟨x, a', rfl⟩
          by_cases hb : b = []
          · subst hb
            go_wp2_with fail
            go_ret
            exact ⟨rfl, HS.out.2⟩
          · obtain ⟨y, b', rfl⟩ : ∃ y b', b = y :: b' := by
              cases b with
              | nil => exact absurd rfl hb
              | cons y b' => exact ⟨y, b', rfl⟩
            have HRM := Lib.hid (HR.out.2.1 (by simp))
            have hri := HR.out.1 (by simp)
            have hcg := HR.out.2.2
            have hab : ((x :: a') == (y :: b')) = ((u0 == u1) && (r0 == r1)) := by
              rw [Bool.eq_iff_iff]
              simp only [beq_iff_eq, Bool.and_eq_true]
              exact ⟨fun h => hri h, fun h => hcg h.1 h.2⟩
            have HA := Lib.hid hab
            clear hri hcg hab ha hb
            go_wp2_with fail
            refine (read2_any s (x :: a') w9 (by omega) (by omega) HS.out.1).mono ?_
            rintro e w10 ⟨rfl, k10⟩
            rw [HRM.out]
            have H10 := Lib.hid (HS.out.2.trans k10)
            have e0 := k10.cell c0 (by simp)
            have e1 := k10.cell c1 (by simp)
            have f0 := k10.cell d0 (by simp)
            have f1 := k10.cell d1 (by simp)
            clear k10 c0 c1 d0 d1
            have hab := HA.out
            generalize x :: a' = a at *
            generalize y :: b' = b at *
            cases hu : (u0 == u1)
            all_goals
              rw [hu] at hab
              cases hr : (r0 == r1)
              all_goals
                rw [hr] at hab
                simp only [Bool.and_true, Bool.and_false, Bool.and_self] at hab
                go_wp2_with fail
                go_ret
                exact ⟨rfl, H10.out⟩
      · have hl3' : (2000 : Int) < u1.length := by omega
        go_wp2_with fail
        go_ret
        exact ⟨rfl, H1.out.2.2⟩
    · have hl2' : (2000 : Int) < u0.length := by omega
      go_wp2_with fail
      go_ret
      exact ⟨rfl, H1.out.2.2⟩
  · have hl' : (2000 : Int) < s.length := by omega
    go_wp2_with fail
    go_ret
    exact ⟨rfl, H1.out.2.2⟩

theorem TokenUnlike_walk (v0 v1 v2 : Value) (w : World) {b0 b1 b2 : Nat} (hv0 : Value.okWide Tryd.prog w .any b0 9 v0) (h0 : Op Tryd.prog w 9 v0.cells.toList) (hv1 : Value.okWide Tryd.prog w .any b1 28 v1) (h1 : Op Tryd.prog w 28 v1.cells.toList) (hv2 : Value.okWide Tryd.prog w .any b2 29 v2) (h2 : Op Tryd.prog w 29 v2.cells.toList) (hT : Tabs w) :
    Calls Tryd.prog 6 #[v0, v1, v2] w fun e w' => e = .returned (.bool true) ∧ Below w.heap.size w w' := by
  obtain ⟨s, rfl⟩ := okWide_string Tryd.underlying9 hv0
  obtain ⟨l, e, hl⟩ := h0.str Tryd.underlying9
  simp [Value.cells] at e
  subst e
  obtain ⟨cs1, rfl, hz1⟩ := okWide_array Tryd.underlying28 hv1
  obtain ⟨cs2, rfl, hz2⟩ := okWide_array Tryd.underlying29 hv2
  have q1 : Tryd.prog.cellsOf 28 = 2 := by kernel_rfl
  have q2 : Tryd.prog.cellsOf 29 = 2 := by kernel_rfl
  have q3 : Tryd.prog.cellsOf 9 = 1 := by kernel_rfl
  have q4 : Tryd.prog.cellsOf 3 = 1 := by kernel_rfl
  rw [q1] at hz1
  rw [q2] at hz2
  obtain ⟨cs1⟩ := cs1
  obtain ⟨cs2⟩ := cs2
  match cs1, cs2, hz1, hz2, h1, h2 with
  | [x0, x1], [y0, y1], _, _, h1, h2 =>
    obtain ⟨_, h1⟩ := h1.array Tryd.underlying28
    obtain ⟨_, h2⟩ := h2.array Tryd.underlying29
    have a0 := h1 0 (by omega)
    have a1 := h1 1 (by omega)
    have a2 := h2 0 (by omega)
    have a3 := h2 1 (by omega)
    rw [q3] at a0 a1
    rw [q4] at a2 a3
    obtain ⟨s0, e0, g0⟩ := a0.str Tryd.underlying9
    obtain ⟨s1, e1, g1⟩ := a1.str Tryd.underlying9
    obtain ⟨n0, e2, _⟩ := a2.int Tryd.underlying3
    obtain ⟨n1, e3, _⟩ := a3.int Tryd.underlying3
    simp [Value.cells] at e0 e1 e2 e3
    subst e0 e1 e2 e3
    exact (unlike_any l s0 s1 n0 n1 w hl g0 g1 hT).mono fun e w' ⟨he, k⟩ => ⟨he, k.below0⟩

set_option maxRecDepth 100000 in
theorem TokenUnlike_lifted (os : Os) (started : os.Started) (H : Type) (enc : TypeId × Value → H) :
    ReturnsInHanded {} Tryd.checked os 6 .any (fun w args => (Rows.tokenUnlikeSpec.pre enc Tryd.prog Tryd.f6 [] false w args ∧ laidMetH Tryd.prog tabsLaid w) ∧ sizedMet enc Tryd.prog Tryd.f6 (OpenSpec.ofChange Rows.tokenUnlikeSpec) false w args)
      (Rows.tokenUnlikeSpec.post enc Tryd.prog Tryd.f6 false true false false) := by
  refine returnsInHanded_of_change_and (C := Tryd.checked) (X := fun w _ => laidMetH Tryd.prog tabsLaid w) (fun _ _ _ hh h => h.of_heap hh) (by kernel_rfl) started (by kernel_rfl) Tryd.func6
    (ChangeSpec.witness_shaped (enc := enc) (C := Tryd.checked) (os := os) (X := fun w _ => laidMetH Tryd.prog tabsLaid w) false (World.laidAll Tryd.prog os tabsLaid) #[.string ⟨#[]⟩, .agg #[.string ⟨#[]⟩, .string ⟨#[]⟩], .agg #[.int .i64 0, .int .i64 0]] 8 (World.laidAll_os _ _ _)
      (World.shaped_of_ZipB (by kernel_rfl) (by kernel_rfl)) (by kernel_rfl) (by kernel_rfl) (by kernel_rfl)
      (by rw [MakeChecks.laidMetH_plain _ _ _ (by kernel_rfl)]; exact laidMet_laidAll _ (by kernel_rfl) (by kernel_rfl))) ?_
  intro W base args ds gs before hval0 hW _ hsz0 hL _
  have hval : ∀ (j : Nat) t v, Tryd.f6.params[j]? = some t → args[j]? = some v → Value.okWide Tryd.prog W .any base t v := hval0
  have hsz : (DataW.weightsEach Tryd.prog (Tryd.f6.params.toList ++ Rows.tokenUnlikeSpec.plain.varTypes Tryd.prog) (ds ++ gs)).all (· ≤ reachBytes) = true := hsz0
  have hW' := hW
  have hT := tabs_of_laid hL
  obtain ⟨p, q, hA0, hV, rfl, _, _⟩ := hW
  have hA : DataW.TrodAll enc Tryd.prog W 0 (fun _ => true) true Tryd.f6.params.toList args.toList ds p := hA0
  rw [Tryd.params6] at hA hval hsz
  obtain ⟨v0, vs0, d0, ds0, p0, q0, hargs, rfl, rfl, h0, r0⟩ := trodAll_cons hA
  obtain ⟨v1, vs1, d1, ds1, p1, q1, rfl, rfl, rfl, h1, r1⟩ := trodAll_cons r0
  obtain ⟨v2, vs2, d2, ds2, p2, q2, rfl, rfl, rfl, h2, r2⟩ := trodAll_cons r1
  obtain ⟨rfl, rfl, rfl⟩ := trodAll_nil r2
  obtain rfl : args = #[v0, v1, v2] := by cases args; simp_all
  obtain ⟨rfl, rfl⟩ := trodVars_none hV
  have lt0 : ∀ x ∈ p0, x.block < W.heap.size := by obtain ⟨m, hm⟩ := h0; exact DataW.trod_lt m _ _ _ hm
  have o0 := op_of hsz (j := 0) rfl rfl h0
  have lt1 : ∀ x ∈ p1, x.block < W.heap.size := by obtain ⟨m, hm⟩ := h1; exact DataW.trod_lt m _ _ _ hm
  have o1 := op_of hsz (j := 1) rfl rfl h1
  have lt2 : ∀ x ∈ p2, x.block < W.heap.size := by obtain ⟨m, hm⟩ := h2; exact DataW.trod_lt m _ _ _ hm
  have o2 := op_of hsz (j := 2) rfl rfl h2
  refine (TokenUnlike_walk v0 v1 v2 W (hval 0 _ v0 rfl rfl) o0 (hval 1 _ v1 rfl rfl) o1 (hval 2 _ v2 rfl rfl) o2 hT).mono fun e W' ⟨he, bel⟩ => ?_
  subst he
  exact ⟨_, rfl, _, _, _, [], _, [], hW', trodAll_mk1 (shut_bool Tryd.underlying4 _), (trodAll_cons_mk (Below.trod (by kernel_rfl) (by kernel_rfl) (of_decide_eq_true (by kernel_rfl)) h0 bel lt0) (trodAll_cons_mk (Below.trod (by kernel_rfl) (by kernel_rfl) (of_decide_eq_true (by kernel_rfl)) h1 bel lt1) (trodAll_cons_mk (Below.trod (by kernel_rfl) (by kernel_rfl) (of_decide_eq_true (by kernel_rfl)) h2 bel lt2) trodAll_mk0))), rfl, bel.frame _, fun h => by cases h⟩

/-- The row's statement. -/
theorem TokenUnlike_row : Rows.TokenUnlikeSaid :=
  OpenClaim.holds_of_wide 6 Tryd.f6 rfl rfl rfl rfl rfl rfl rfl ⟨rfl, rfl, rfl, rfl, rfl⟩ rfl rfl rfl rfl rfl (by kernel_rfl) Tryd.func6 (by kernel_rfl)
    (of_decide_eq_true (by kernel_rfl)) (by unfold Func.isWrapper; rw [if_neg (of_decide_eq_false (by kernel_rfl))]; exact ⟨rfl, rfl⟩)
    (fun os started H enc _ => TokenUnlike_lifted os started H enc)
/-- The card. -/
theorem TokenUnlike_holds : Rows.TokenUnlikeCardSaid :=
  Claim7.holds_tied_plain_at .later [] [.data, .pinned] true Rows.tokenUnlikeCard.stood.harness false
    TokenUnlike_row (fun _ h => by cases h) (by kernel_rfl) (fun _ h => by cases h) tokenUnlike_row_tie rfl ⟨rfl, rfl⟩ (by kernel_rfl) rfl
    (fun f fn hf hfn => by
      obtain rfl : f = 6 := Option.some.inj ((show Tryd.prog.funcNamed "exchequer/exchequerlaw17.TokenUnlike" = some 6 by kernel_rfl).symm.trans hf) |>.symm
      obtain rfl : fn = Tryd.f6 := (Option.some.inj (Tryd.func6.symm.trans hfn)).symm
      exact ⟨by kernel_rfl, fun j t ht => by
        rw [Tryd.params6] at ht
        have hm : t ∈ [9, 28, 29] := by simpa using Array.mem_of_getElem? ht
        have hall : ([9, 28, 29].all fun u => !Tryd.prog.wantsStandIn u) = true := by kernel_rfl
        exact (show Tryd.prog.wantsStandIn t = false by simpa using List.all_eq_true.1 hall t hm)⟩)
    (by kernel_rfl)
#print axioms TokenUnlike_holds
end Go.Proofs.YtoabhjngcajmiaaDoor
