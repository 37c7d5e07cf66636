/-
  MsgFlats: any flat form makes the message of its kind, whose flat form has just the fields of that; others make none. No condition beyond the row's.
-/
import Derived.Test.YtihklmomipidaaaMsgOpen
import Derived.Test.YtihklmomipidaaaRows
namespace Go.Proofs.Ytihklmomipidaaa
open Go.RowKit Go.Lib Go.ChangeShapes Go.WideShapes Go.ChangeAt
set_option linter.unusedSimpArgs false
set_option linter.unusedVariables false
set_option maxRecDepth 100000

set_option maxHeartbeats 4000000 in
theorem flats10_any (x : Rw) (a : Option Addr) (cap : Nat) (w : World) (hr : Rd w 3 a x.es.length (entcs x.es)) (hl : x.es.length ≤ 4398046511104) :
    Calls Try.prog 3 #[rwV x (.slice a x.es.length cap)] w fun e w' => e = .returned (.bool true) ∧ Step [] [] w w' := by
  have H0 : Hid (Rd (w.alloc (.cells (rwc x (.slice a x.es.length cap)).toArray 24)) 3 a x.es.length (entcs x.es) ∧ Step [] [] w (w.alloc (.cells (rwc x (.slice a x.es.length cap)).toArray 24)) ∧ Blk (w.alloc (.cells (rwc x (.slice a x.es.length cap)).toArray 24)) w.heap.size 24 (rwc x (.slice a x.es.length cap)).toArray) := ⟨hr.alloc _, (Step.refl [] w).alloc _, Blk.new w _ _⟩
  have HL0 := Lib.hid (And.intro hl (clean_len x))
  clear hr hl
  go_enter Try.func3, Try.ntmps3
  go_wp2_with fail
  refine (awake10_true _).mono ?_
  rintro e w1 ⟨rfl, k1⟩
  obtain ⟨b, hb⟩ : ∃ b, b = w.heap.size := ⟨_, rfl⟩
  have H1 : Hid (Rd w1 3 a x.es.length (entcs x.es) ∧ Step [] [] w w1 ∧ Blk w1 b 24 (rwc x (.slice a x.es.length cap)).toArray) := by
    rw [hb]
    exact ⟨H0.out.1.step0 k1, H0.out.2.1.trans k1, H0.out.2.2.step k1 (by simp)⟩
  rw [← hb]
  clear k1 hb H0
  have ra := H1.out.2.2.rw
  have rl := H1.out.2.2.lt
  cases hik : isKind x.kind with
  | false =>
    have HK := Lib.hid hik
    clear hik
    go_wp2_with fail
    refine (of_none x a cap w1 HK.out).mono ?_
    rintro e w2 ⟨rfl, k2⟩
    have H2 : Hid (Rd w2 3 a x.es.length (entcs x.es) ∧ Step [] [] w w2 ∧ Blk w2 b 24 (rwc x (.slice a x.es.length cap)).toArray) := ⟨H1.out.1.step0 k2, H1.out.2.1.trans k2, H1.out.2.2.step k2 (by simp)⟩
    clear ra rl k2 H1
    have ra := H2.out.2.2.rw
    have rl := H2.out.2.2.lt
    go_wp2_with fail
    refine (refClean_any x a cap w2 H2.out.1 HL0.out.1).mono ?_
    rintro e w3 ⟨a3, cap3, rfl, r3, k3⟩
    rw [HK.out]
    have H3 := Lib.hid (H2.out.2.1.trans k3)
    clear ra rl k3 r3 H2
    go_wp2_with fail
    exact bodyPost_ret (results_tmp rfl _ _ _) rfl ⟨rfl, H3.out.alloc _⟩
  | true =>
    have HK := Lib.hid hik
    clear hik
    go_wp2_with fail
    refine (of_any x a cap w1 HK.out H1.out.1 HL0.out.1).mono ?_
    rintro e w2 ⟨m, rfl, hm, k2⟩
    have H2 : Hid (Rd w2 3 a x.es.length (entcs x.es) ∧ Step [] [] w w2 ∧ Blk w2 b 24 (rwc x (.slice a x.es.length cap)).toArray) := ⟨H1.out.1.step0 k2, H1.out.2.1.trans k2, H1.out.2.2.step k2 (by simp)⟩
    clear ra rl k2 H1
    have ra := H2.out.2.2.rw
    have rl := H2.out.2.2.lt
    obtain ⟨T, u, F, rfl, hF⟩ := hm.flat
    have HF := Lib.hid hF
    clear hm hF
    go_wp2_with fail
    refine (refClean_any x a cap w2 H2.out.1 HL0.out.1).mono ?_
    rintro e w3 ⟨a3, cap3, rfl, r3, k3⟩
    rw [HK.out]
    obtain ⟨y, hy⟩ : ∃ y, y = cleanL x := ⟨_, rfl⟩
    have HL : Hid (y.es.length ≤ x.es.length ∧ y.es.length ≤ 4398046511104) := by
      rw [hy]
      exact ⟨HL0.out.2, Nat.le_trans HL0.out.2 HL0.out.1⟩
    rw [← hy] at r3 HF ⊢
    have H3 := Lib.hid (And.intro (H2.out.2.1.trans k3) (And.intro r3 k3))
    clear ra rl k3 r3 hy
    go_wp2_with fail
    obtain ⟨V, hV⟩ : ∃ V, V = w3.alloc (.cells (rwc y (.slice a3 y.es.length cap3)).toArray 24) := ⟨_, rfl⟩
    obtain ⟨b3, hb3⟩ : ∃ b, b = w3.heap.size := ⟨_, rfl⟩
    have H4 : Hid (Step [] [] w V ∧ b3 < V.heap.size ∧ Rd V 3 a3 y.es.length (entcs y.es) ∧ Blk V b3 24 (rwc y (.slice a3 y.es.length cap3)).toArray ∧ True ∧ Step [] [] w2 V) := by
      rw [hV, hb3]
      exact ⟨H3.out.1.alloc _, (Blk.new w3 _ _).lt, H3.out.2.1.alloc _, Blk.new w3 _ _, trivial, H3.out.2.2.alloc _⟩
    rw [show w3.alloc (.cells #[.int .i64 y.kind, .int .i64 y.src, .int .i64 y.term, .int .i64 y.index, .int .i64 y.last, .int .i64 y.commit, .int .i64 y.round, .bool y.yes, .slice a3 y.es.length cap3, .string ⟨y.data.toArray⟩] 24) = V from hV.symm, ← hb3]
    clear hV hb3 H3 H2
    have H3 := H4
    clear H4
    have m1 := HF.out.method
    have m2 := HF.out.ahead
    have m3 := HF.out.enter
    refine wp_region_held_drew (S := fun W => Hid (Step [] [] V W)) (by kernel_rfl) (Lib.hid ((Step.refl [] V).drew)) (fun hHeld => ?_)
    refine wpAnyH_take (i := 0) (v := ?_) rfl (by kernel_rfl) (by kernel_rfl) (by kernel_rfl) (fun _ _ _ h => h) (Or.inl ⟨by rfl, ?_⟩) hHeld ?_
    rotate_left
    · intro w hSw
      have hSw1 := hSw
      clear hSw
      try dsimp only at hSw1
      go_simp
      try (with_reducible rfl)
    try simp only [Act.put, List.setIfInBounds_toArray, List.set_cons_zero, List.set_cons_succ, List.getElem_toArray, List.getElem_cons_zero, List.getElem_cons_succ]
    refine wpAnyH_take (i := 1) (v := ?_) rfl (by kernel_rfl) (by kernel_rfl) (by kernel_rfl) (fun _ _ _ h => h) (Or.inl ⟨by rfl, ?_⟩) hHeld ?_
    rotate_left
    · intro w hSw
      have hSw1 := hSw
      clear hSw
      try dsimp only at hSw1
      go_simp
      try (with_reducible rfl)
    try simp only [Act.put, List.setIfInBounds_toArray, List.set_cons_zero, List.set_cons_succ, List.getElem_toArray, List.getElem_cons_zero, List.getElem_cons_succ]
    refine wpAnyH_take (i := 2) (v := ?_) rfl (by kernel_rfl) (by kernel_rfl) (by kernel_rfl) (fun _ _ _ h => h) (Or.inl ⟨by rfl, ?_⟩) hHeld ?_
    rotate_left
    · intro w hSw
      have hSw1 := hSw
      clear hSw
      try dsimp only at hSw1
      go_simp
      try (with_reducible rfl)
    try simp only [Act.put, List.setIfInBounds_toArray, List.set_cons_zero, List.set_cons_succ, List.getElem_toArray, List.getElem_cons_zero, List.getElem_cons_succ]
    refine wpAnyH_take (i := 3) (v := ?_) rfl (by kernel_rfl) (by kernel_rfl) (by kernel_rfl) (fun _ _ _ h => h) (Or.inl ⟨by rfl, ?_⟩) hHeld ?_
    rotate_left
    · intro w hSw
      have hSw1 := hSw
      clear hSw
      try dsimp only at hSw1
      go_simp
      try (with_reducible rfl)
    try simp only [Act.put, List.setIfInBounds_toArray, List.set_cons_zero, List.set_cons_succ, List.getElem_toArray, List.getElem_cons_zero, List.getElem_cons_succ]
    refine wpAnyH_take (i := 4) (v := ?_) rfl (by kernel_rfl) (by kernel_rfl) (by kernel_rfl) (fun _ _ _ h => h) (Or.inl ⟨by rfl, ?_⟩) hHeld ?_
    rotate_left
    · intro w hSw
      have hSw1 := hSw
      clear hSw
      try dsimp only at hSw1
      go_simp
      try (with_reducible rfl)
    try simp only [Act.put, List.setIfInBounds_toArray, List.set_cons_zero, List.set_cons_succ, List.getElem_toArray, List.getElem_cons_zero, List.getElem_cons_succ]
    refine wpAnyH_take (i := 5) (v := ?_) rfl (by kernel_rfl) (by kernel_rfl) (by kernel_rfl) (fun _ _ _ h => h) (Or.inl ⟨by rfl, ?_⟩) hHeld ?_
    rotate_left
    · intro w hSw
      have hSw1 := hSw
      clear hSw
      try dsimp only at hSw1
      go_simp
      try (with_reducible rfl)
    try simp only [Act.put, List.setIfInBounds_toArray, List.set_cons_zero, List.set_cons_succ, List.getElem_toArray, List.getElem_cons_zero, List.getElem_cons_succ]
    refine wpAnyH_take (i := 6) (v := ?_) rfl (by kernel_rfl) (by kernel_rfl) (by kernel_rfl) (fun _ _ _ h => h) (Or.inl ⟨by rfl, ?_⟩) hHeld ?_
    rotate_left
    · intro w hSw
      have hSw1 := hSw
      clear hSw
      try dsimp only at hSw1
      go_simp
      try (with_reducible rfl)
    try simp only [Act.put, List.setIfInBounds_toArray, List.set_cons_zero, List.set_cons_succ, List.getElem_toArray, List.getElem_cons_zero, List.getElem_cons_succ]
    refine wpAnyH_take (i := 8) (v := ?_) rfl (by kernel_rfl) (by kernel_rfl) (by kernel_rfl) (fun _ _ _ h => h) (Or.inl ⟨by rfl, ?_⟩) hHeld ?_
    rotate_left
    · intro w hSw
      have hSw1 := hSw
      clear hSw
      have ra := (H3.out.2.2.2.1.step hSw1.out (by simp)).rw
      have rl := (H3.out.2.2.2.1.step hSw1.out (by simp)).lt
      go_simp
      try (with_reducible rfl)
    try simp only [Act.put, List.setIfInBounds_toArray, List.set_cons_zero, List.set_cons_succ, List.getElem_toArray, List.getElem_cons_zero, List.getElem_cons_succ]
    refine wpAnyH_ready (rs := [7]) (by kernel_rfl) (by simp) ?_
    refine AllReadyH.cons rfl (fun K hK => ?_) AllReadyH.nil
    go_simp
    refine (HF.out.call _ (H3.out.2.2.2.2.2.trans hHeld.out)).mono ?_; rintro e U1 ⟨fa, fc, rfl, r1, k1⟩; have G1 := Lib.hid (And.intro r1 (hHeld.out.trans k1)); clear r1 k1
    go_wp2_with fail
    refine hK.out _ _ (Lib.hid G1.out.2) (fun hHeld2 => ?_)
    clear hK K hHeld
    try simp only [Act.put, List.setIfInBounds_toArray, List.set_cons_zero, List.set_cons_succ, List.getElem_toArray, List.getElem_cons_zero, List.getElem_cons_succ]
    refine wpAnyH_ready (rs := [9]) (by kernel_rfl) (by simp) ?_
    refine AllReadyH.cons rfl (fun K hK => ?_) AllReadyH.nil
    go_simp
    refine (sameR_any y _ _ _ _ U1 G1.out.1 (H3.out.2.2.1.step0 G1.out.2) HL.out.2).mono ?_; rintro e U2 ⟨rfl, k2⟩; have G2 := Lib.hid (G1.out.2.trans k2); clear k2
    go_wp2_with fail
    refine hK.out _ _ (Lib.hid G2.out) (fun hHeld3 => ?_)
    clear hK K hHeld2
    try simp only [Act.put, List.setIfInBounds_toArray, List.set_cons_zero, List.set_cons_succ, List.getElem_toArray, List.getElem_cons_zero, List.getElem_cons_succ]
    refine wpAnyH_take (i := 10) (v := ?_) rfl (by kernel_rfl) (by kernel_rfl) (by kernel_rfl) (fun _ _ _ h => h) (Or.inl ⟨by rfl, ?_⟩) hHeld3 ?_
    rotate_left
    · intro w hSw
      have hSw1 := hSw
      clear hSw
      try dsimp only at hSw1
      go_simp
      try (with_reducible rfl)
    try simp only [Act.put, List.setIfInBounds_toArray, List.set_cons_zero, List.set_cons_succ, List.getElem_toArray, List.getElem_cons_zero, List.getElem_cons_succ]
    refine wpAnyH_take (i := 11) (v := ?_) rfl (by kernel_rfl) (by kernel_rfl) (by kernel_rfl) (fun _ _ _ h => h) (Or.inl ⟨by rfl, ?_⟩) hHeld3 ?_
    rotate_left
    · intro w hSw
      have hSw1 := hSw
      clear hSw
      try dsimp only at hSw1
      go_simp
      try (with_reducible rfl)
    try simp only [Act.put, List.setIfInBounds_toArray, List.set_cons_zero, List.set_cons_succ, List.getElem_toArray, List.getElem_cons_zero, List.getElem_cons_succ]
    refine wpAnyH_done (by kernel_rfl) ?_ _
    go_wp2_with fail
    exact bodyPost_ret (results_tmp rfl _ _ _) rfl ⟨rfl, H3.out.1.trans G2.out⟩

theorem MsgFlats_walk (v0 : Value) (w : World) {b : Nat} (h0 : Value.okWide Try.prog w .any b 24 v0) (o0 : Op Try.prog w 24 v0.cells.toList) :
    Calls Try.prog 3 #[v0] w fun e w' => e = .returned (.bool true) ∧ Below w.heap.size w w' := by
  obtain ⟨x, a, cap, rfl, hr, hl, hd⟩ := raw_in h0 o0
  exact (flats10_any x a cap w hr hl).mono fun e w' ⟨h1, h2⟩ => ⟨h1, h2.below0⟩
set_option maxRecDepth 100000 in
theorem MsgFlats_lifted (os : Os) (started : os.Started) (H : Type) (enc : TypeId × Value → H) :
    ReturnsInHanded {} Try.checked os 3 .any (Rows.msgFlatsSpec.pre6 enc Try.prog Try.f3 Rows.msgFlatsRow.domain false) (Rows.msgFlatsSpec.post enc Try.prog Try.f3 false true false false) := by
  refine returnsInHanded_of_change_sized (C := Try.checked) (by kernel_rfl) started (by kernel_rfl) Try.func3
    (ChangeSpec.witness6 (enc := enc) (C := Try.checked) false ⟨#[], #[.agg #[.int .i64 0, .int .i64 0, .int .i64 0, .int .i64 0, .int .i64 0, .int .i64 0, .int .i64 0, .bool false, .slice none 0 0, .string ⟨#[]⟩]], []⟩ 8 (by kernel_rfl) (by kernel_rfl) (by kernel_rfl) (by kernel_rfl)) ?_
  intro W base args ds gs before hval0 hW hcnd hsz0 _
  have hval : ∀ (j : Nat) t v, Try.f3.params[j]? = some t → args[j]? = some v → Value.okWide Try.prog W .any base t v := hval0
  have hsz : (DataW.weightsEach Try.prog (Try.f3.params.toList ++ Rows.msgFlatsSpec.plain.varTypes Try.prog) (ds ++ gs)).all (· ≤ reachBytes) = true := hsz0
  have hW' := hW
  obtain ⟨p, q, hA0, hV, rfl, hfz, hnd⟩ := hW
  have hA : DataW.TrodAll enc Try.prog W 0 (fun _ => true) true Try.f3.params.toList args.toList ds p := hA0
  rw [Try.params3] at hA hval hsz
  obtain ⟨v0, vs0, d0, ds0, p0, q0, hargs, rfl, rfl, h0, r0⟩ := trodAll_cons hA
  obtain ⟨rfl, rfl, rfl⟩ := trodAll_nil r0
  obtain rfl : args = #[v0] := by cases args; simp_all
  obtain ⟨rfl, rfl⟩ := trodVars_none hV
  have lt0 : ∀ x ∈ p0, x.block < W.heap.size := by obtain ⟨m, hm⟩ := h0; exact DataW.trod_lt m _ _ _ hm
  have o0 := op_of hsz (j := 0) rfl rfl h0
  refine (MsgFlats_walk v0 W (hval 0 _ v0 rfl rfl) o0).mono fun e W' ⟨he, bel⟩ => ?_
  subst he
  exact ⟨_, rfl, _, _, _, [], _, [], hW', trodAll_mk1 (shut_bool Try.underlying4 _), (trodAll_cons_mk (Below.trod (by kernel_rfl) (by kernel_rfl) (of_decide_eq_true (by kernel_rfl)) h0 bel lt0) trodAll_mk0), rfl, bel.frame _, fun h => by cases h⟩

/-- The statement. -/
theorem MsgFlats_holds : Rows.MsgFlatsSaid :=
  OpenClaim.holds_of_wide 3 Try.f3 rfl rfl rfl rfl rfl rfl rfl ⟨rfl, rfl, rfl, rfl, rfl⟩ rfl rfl rfl rfl rfl (by kernel_rfl) Try.func3 (by kernel_rfl)
    (of_decide_eq_true (by kernel_rfl)) (by unfold Func.isWrapper; rw [if_neg (of_decide_eq_false (by kernel_rfl))]; exact ⟨rfl, rfl⟩)
    (fun os started H enc _ => MsgFlats_lifted os started H enc)
#print axioms MsgFlats_holds
end Go.Proofs.Ytihklmomipidaaa
