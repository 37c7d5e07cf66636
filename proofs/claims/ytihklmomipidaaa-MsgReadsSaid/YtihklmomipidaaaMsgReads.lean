/-
  MsgReads: any bytes are those of the message that the document says, which has just these bytes, or of none. No condition beyond the row's.
-/
import Derived.Test.YtihklmomipidaaaMsgM
import Derived.Test.YtihklmomipidaaaMsgOpen
import Derived.Test.YtihklmomipidaaaRows
namespace Go.Proofs.Ytihklmomipidaaa
open Go.RowKit Go.Lib Go.ChangeShapes Go.WideShapes Go.ChangeAt
set_option linter.unusedSimpArgs false
set_option linter.unusedVariables false
set_option maxRecDepth 100000

theorem dec_was {s : List UInt8} {r : Rw} (h : decL s = some r) : s = msgB r ∧ rightR r = true ∧ cleanL r = r ∧ isKind r.kind = true := by
  unfold decL at h
  split at h
  · rename_i hh
    injection h with h
    obtain ⟨h1, h2⟩ := hh
    have hz := rend_zero h2
    obtain ⟨g1, g2, g3⟩ := read_was s [] (readM ⟨s, false⟩).1 (by rw [← hz]) h1
    rw [List.append_nil] at g1
    rw [h] at g1 g2 g3 h1
    exact ⟨g1, g2, g3, h1⟩
  · cases h
set_option maxHeartbeats 4000000 in
theorem reads10_any (s : List UInt8) (w : World) (hs : s.length ≤ 140737488351232) :
    Calls Try.prog 5 #[Str s] w fun e w' => e = .returned (.bool true) ∧ Step [] [] w w' := by
  go_enter Try.func5, Try.ntmps5
  go_wp2_with fail
  refine (awake10_true _).mono ?_
  rintro e w1 ⟨rfl, k1⟩
  have H1 := Lib.hid k1
  clear k1
  by_cases hg : (200000 : Int) < s.length
  · have hgd : decide ((200000 : Int) < s.length) = true := decide_eq_true hg
    clear hg
    go_wp2_with fail
    exact bodyPost_ret (results_tmp rfl _ _ _) rfl ⟨rfl, H1.out⟩
  · have hgd : decide ((200000 : Int) < s.length) = false := decide_eq_false hg
    have HL0 : Hid (s.length ≤ 200000) := Lib.hid (by omega)
    clear hg
    go_wp2_with fail
    refine (decode_any s w1 (by have := HL0.out; omega)).mono ?_
    rintro e w2 ⟨h2, k2⟩
    have H2 := Lib.hid (H1.out.trans k2)
    clear k2 H1 hgd
    rcases h2 with ⟨y, m, hy, rfl, hm, hyd⟩ | ⟨hy, rfl⟩
    · have HY := Lib.hid hy
      have HM := Lib.hid hm
      have HYD := Lib.hid hyd
      obtain ⟨T, u, F, rfl, hF⟩ := hm.flat
      have HF := Lib.hid hF
      clear hm hF hy hyd
      go_wp2_with fail
      refine (refRead_any s w2 (by have := HL0.out; omega)).mono ?_
      rintro e w3 ⟨h3, k3⟩
      rcases h3 with ⟨r, a3, cap3, hr, rfl, r3⟩ | ⟨hr, rfl⟩
      · obtain rfl : y = r := by
          have h9 := HY.out
          rw [hr] at h9
          injection h9 with h9
          exact h9.symm
        have HL : Hid (True ∧ y.es.length ≤ 4398046511104) := ⟨trivial, HM.out.len⟩
        have H3 := Lib.hid (And.intro (H2.out.trans k3) (And.intro r3 k3))
        clear k3 r3 hr H2
        go_wp2_with fail
        obtain ⟨V, hV⟩ : ∃ V, V = w3.alloc (.cells (rwc y (.slice a3 y.es.length cap3)).toArray 24) := ⟨_, rfl⟩
        obtain ⟨b3, hb3⟩ : ∃ b, b = w3.heap.size := ⟨_, rfl⟩
        have H4 : Hid (Step [] [] w V ∧ b3 < V.heap.size ∧ Rd V 3 a3 y.es.length (entcs y.es) ∧ Blk V b3 24 (rwc y (.slice a3 y.es.length cap3)).toArray ∧ True ∧ Step [] [] w2 V) := by
          rw [hV, hb3]
          exact ⟨H3.out.1.alloc _, (Blk.new w3 _ _).lt, H3.out.2.1.alloc _, Blk.new w3 _ _, trivial, H3.out.2.2.alloc _⟩
        rw [show w3.alloc (.cells #[.int .i64 y.kind, .int .i64 y.src, .int .i64 y.term, .int .i64 y.index, .int .i64 y.last, .int .i64 y.commit, .int .i64 y.round, .bool y.yes, .slice a3 y.es.length cap3, .string ⟨y.data.toArray⟩] 24) = V from hV.symm, ← hb3]
        clear hV hb3 H3
        have H3 := H4
        clear H4
        have m1 := HF.out.method
        have m2 := HF.out.ahead
        have m3 := HF.out.enter
        refine wp_region_held_drew (S := fun W => Hid (Step [] [] V W)) (by kernel_rfl) (Lib.hid ((Step.refl [] V).drew)) (fun hHeld => ?_)
        refine wpAnyH_take (i := 0) (v := ?_) rfl (by kernel_rfl) (by kernel_rfl) (by kernel_rfl) (fun _ _ _ h => h) (Or.inl ⟨by rfl, ?_⟩) hHeld ?_
        rotate_left
        · intro w hSw
          have hSw1 := hSw
          clear hSw
          try dsimp only at hSw1
          go_simp
          try (with_reducible rfl)
        try simp only [Act.put, List.setIfInBounds_toArray, List.set_cons_zero, List.set_cons_succ, List.getElem_toArray, List.getElem_cons_zero, List.getElem_cons_succ]
        refine wpAnyH_take (i := 1) (v := ?_) rfl (by kernel_rfl) (by kernel_rfl) (by kernel_rfl) (fun _ _ _ h => h) (Or.inl ⟨by rfl, ?_⟩) hHeld ?_
        rotate_left
        · intro w hSw
          have hSw1 := hSw
          clear hSw
          try dsimp only at hSw1
          go_simp
          try (with_reducible rfl)
        try simp only [Act.put, List.setIfInBounds_toArray, List.set_cons_zero, List.set_cons_succ, List.getElem_toArray, List.getElem_cons_zero, List.getElem_cons_succ]
        refine wpAnyH_take (i := 2) (v := ?_) rfl (by kernel_rfl) (by kernel_rfl) (by kernel_rfl) (fun _ _ _ h => h) (Or.inl ⟨by rfl, ?_⟩) hHeld ?_
        rotate_left
        · intro w hSw
          have hSw1 := hSw
          clear hSw
          try dsimp only at hSw1
          go_simp
          try (with_reducible rfl)
        try simp only [Act.put, List.setIfInBounds_toArray, List.set_cons_zero, List.set_cons_succ, List.getElem_toArray, List.getElem_cons_zero, List.getElem_cons_succ]
        refine wpAnyH_take (i := 3) (v := ?_) rfl (by kernel_rfl) (by kernel_rfl) (by kernel_rfl) (fun _ _ _ h => h) (Or.inl ⟨by rfl, ?_⟩) hHeld ?_
        rotate_left
        · intro w hSw
          have hSw1 := hSw
          clear hSw
          try dsimp only at hSw1
          go_simp
          try (with_reducible rfl)
        try simp only [Act.put, List.setIfInBounds_toArray, List.set_cons_zero, List.set_cons_succ, List.getElem_toArray, List.getElem_cons_zero, List.getElem_cons_succ]
        refine wpAnyH_take (i := 4) (v := ?_) rfl (by kernel_rfl) (by kernel_rfl) (by kernel_rfl) (fun _ _ _ h => h) (Or.inl ⟨by rfl, ?_⟩) hHeld ?_
        rotate_left
        · intro w hSw
          have hSw1 := hSw
          clear hSw
          try dsimp only at hSw1
          go_simp
          try (with_reducible rfl)
        try simp only [Act.put, List.setIfInBounds_toArray, List.set_cons_zero, List.set_cons_succ, List.getElem_toArray, List.getElem_cons_zero, List.getElem_cons_succ]
        refine wpAnyH_take (i := 5) (v := ?_) rfl (by kernel_rfl) (by kernel_rfl) (by kernel_rfl) (fun _ _ _ h => h) (Or.inl ⟨by rfl, ?_⟩) hHeld ?_
        rotate_left
        · intro w hSw
          have hSw1 := hSw
          clear hSw
          try dsimp only at hSw1
          go_simp
          try (with_reducible rfl)
        try simp only [Act.put, List.setIfInBounds_toArray, List.set_cons_zero, List.set_cons_succ, List.getElem_toArray, List.getElem_cons_zero, List.getElem_cons_succ]
        refine wpAnyH_take (i := 6) (v := ?_) rfl (by kernel_rfl) (by kernel_rfl) (by kernel_rfl) (fun _ _ _ h => h) (Or.inl ⟨by rfl, ?_⟩) hHeld ?_
        rotate_left
        · intro w hSw
          have hSw1 := hSw
          clear hSw
          try dsimp only at hSw1
          go_simp
          try (with_reducible rfl)
        try simp only [Act.put, List.setIfInBounds_toArray, List.set_cons_zero, List.set_cons_succ, List.getElem_toArray, List.getElem_cons_zero, List.getElem_cons_succ]
        refine wpAnyH_take (i := 7) (v := ?_) rfl (by kernel_rfl) (by kernel_rfl) (by kernel_rfl) (fun _ _ _ h => h) (Or.inl ⟨by rfl, ?_⟩) hHeld ?_
        rotate_left
        · intro w hSw
          have hSw1 := hSw
          clear hSw
          try dsimp only at hSw1
          go_simp
          try (with_reducible rfl)
        try simp only [Act.put, List.setIfInBounds_toArray, List.set_cons_zero, List.set_cons_succ, List.getElem_toArray, List.getElem_cons_zero, List.getElem_cons_succ]
        refine wpAnyH_take (i := 9) (v := ?_) rfl (by kernel_rfl) (by kernel_rfl) (by kernel_rfl) (fun _ _ _ h => h) (Or.inl ⟨by rfl, ?_⟩) hHeld ?_
        rotate_left
        · intro w hSw
          have hSw1 := hSw
          clear hSw
          have ra := (H3.out.2.2.2.1.step hSw1.out (by simp)).rw
          have rl := (H3.out.2.2.2.1.step hSw1.out (by simp)).lt
          go_simp
          try (with_reducible rfl)
        try simp only [Act.put, List.setIfInBounds_toArray, List.set_cons_zero, List.set_cons_succ, List.getElem_toArray, List.getElem_cons_zero, List.getElem_cons_succ]
        refine wpAnyH_ready (rs := [8]) (by kernel_rfl) (by simp) ?_
        refine AllReadyH.cons rfl (fun K hK => ?_) AllReadyH.nil
        go_simp
        refine (HF.out.call _ (H3.out.2.2.2.2.2.trans hHeld.out)).mono ?_; rintro e U1 ⟨fa, fc, rfl, r1, k1⟩; have G1 := Lib.hid (And.intro r1 (hHeld.out.trans k1)); clear r1 k1
        go_wp2_with fail
        refine hK.out _ _ (Lib.hid G1.out.2) (fun hHeld2 => ?_)
        clear hK K hHeld
        try simp only [Act.put, List.setIfInBounds_toArray, List.set_cons_zero, List.set_cons_succ, List.getElem_toArray, List.getElem_cons_zero, List.getElem_cons_succ]
        refine wpAnyH_ready (rs := [10]) (by kernel_rfl) (by simp) ?_
        refine AllReadyH.cons rfl (fun K hK => ?_) AllReadyH.nil
        go_simp
        refine (sameR_any y _ _ _ _ U1 G1.out.1 (H3.out.2.2.1.step0 G1.out.2) HL.out.2).mono ?_; rintro e U2 ⟨rfl, k2⟩; have G2 := Lib.hid (G1.out.2.trans k2); clear k2
        go_wp2_with fail
        refine hK.out _ _ (Lib.hid G2.out) (fun hHeld3 => ?_)
        clear hK K hHeld2
        try simp only [Act.put, List.setIfInBounds_toArray, List.set_cons_zero, List.set_cons_succ, List.getElem_toArray, List.getElem_cons_zero, List.getElem_cons_succ]
        refine wpAnyH_take (i := 11) (v := ?_) rfl (by kernel_rfl) (by kernel_rfl) (by kernel_rfl) (fun _ _ _ h => h) (Or.inl ⟨by rfl, ?_⟩) hHeld3 ?_
        rotate_left
        · intro w hSw
          have hSw1 := hSw
          clear hSw
          try dsimp only at hSw1
          go_simp
          try (with_reducible rfl)
        try simp only [Act.put, List.setIfInBounds_toArray, List.set_cons_zero, List.set_cons_succ, List.getElem_toArray, List.getElem_cons_zero, List.getElem_cons_succ]
        refine wpAnyH_take (i := 12) (v := ?_) rfl (by kernel_rfl) (by kernel_rfl) (by kernel_rfl) (fun _ _ _ h => h) (Or.inl ⟨by rfl, ?_⟩) hHeld3 ?_
        rotate_left
        · intro w hSw
          have hSw1 := hSw
          clear hSw
          try dsimp only at hSw1
          go_simp
          try (with_reducible rfl)
        try simp only [Act.put, List.setIfInBounds_toArray, List.set_cons_zero, List.set_cons_succ, List.getElem_toArray, List.getElem_cons_zero, List.getElem_cons_succ]
        refine wpAnyH_done (by kernel_rfl) ?_ _
        clear m1 m2 m3
        go_wp2_with fail
        refine (encode_any (HM.out.step (H3.out.2.2.2.2.2.trans G2.out)) HYD.out).mono ?_
        rintro e w9 ⟨rfl, k9⟩
        have H9 := Lib.hid ((H3.out.1.trans G2.out).trans k9)
        clear k9
        have HW := dec_was HY.out
        rw [encL_ok y HW.2.2.2 HW.2.1, ← HW.1]
        clear HW
        go_wp2_with fail
        exact bodyPost_ret (results_tmp rfl _ _ _) rfl ⟨rfl, H9.out⟩
      · exfalso
        have h9 := HY.out
        rw [hr] at h9
        cases h9
    · have HY := Lib.hid hy
      clear hy
      go_wp2_with fail
      refine (refRead_any s w2 (by have := HL0.out; omega)).mono ?_
      rintro e w3 ⟨h3, k3⟩
      rcases h3 with ⟨r, a3, cap3, hr, rfl, r3⟩ | ⟨hr, rfl⟩
      · exfalso
        have h9 := HY.out
        rw [hr] at h9
        cases h9
      · have H3 := Lib.hid (H2.out.trans k3)
        clear k3 hr H2
        go_wp2_with fail
        exact bodyPost_ret (results_tmp rfl _ _ _) rfl ⟨rfl, H3.out.alloc _⟩

theorem MsgReads_walk (v0 : Value) (w : World) {b : Nat} (h0 : Value.okWide Try.prog w .any b 9 v0) (o0 : Op Try.prog w 9 v0.cells.toList) :
    Calls Try.prog 5 #[v0] w fun e w' => e = .returned (.bool true) ∧ Below w.heap.size w w' := by
  obtain ⟨s, rfl, hs⟩ := str_in h0 o0
  exact (reads10_any s w hs).mono fun e w' ⟨h1, h2⟩ => ⟨h1, h2.below0⟩
set_option maxRecDepth 100000 in
theorem MsgReads_lifted (os : Os) (started : os.Started) (H : Type) (enc : TypeId × Value → H) :
    ReturnsInHanded {} Try.checked os 5 .any (Rows.msgReadsSpec.pre6 enc Try.prog Try.f5 Rows.msgReadsRow.domain false) (Rows.msgReadsSpec.post enc Try.prog Try.f5 false true false false) := by
  refine returnsInHanded_of_change_sized (C := Try.checked) (by kernel_rfl) started (by kernel_rfl) Try.func5
    (ChangeSpec.witness6 (enc := enc) (C := Try.checked) false ⟨#[], #[.string ⟨#[]⟩], []⟩ 8 (by kernel_rfl) (by kernel_rfl) (by kernel_rfl) (by kernel_rfl)) ?_
  intro W base args ds gs before hval0 hW hcnd hsz0 _
  have hval : ∀ (j : Nat) t v, Try.f5.params[j]? = some t → args[j]? = some v → Value.okWide Try.prog W .any base t v := hval0
  have hsz : (DataW.weightsEach Try.prog (Try.f5.params.toList ++ Rows.msgReadsSpec.plain.varTypes Try.prog) (ds ++ gs)).all (· ≤ reachBytes) = true := hsz0
  have hW' := hW
  obtain ⟨p, q, hA0, hV, rfl, hfz, hnd⟩ := hW
  have hA : DataW.TrodAll enc Try.prog W 0 (fun _ => true) true Try.f5.params.toList args.toList ds p := hA0
  rw [Try.params5] at hA hval hsz
  obtain ⟨v0, vs0, d0, ds0, p0, q0, hargs, rfl, rfl, h0, r0⟩ := trodAll_cons hA
  obtain ⟨rfl, rfl, rfl⟩ := trodAll_nil r0
  obtain rfl : args = #[v0] := by cases args; simp_all
  obtain ⟨rfl, rfl⟩ := trodVars_none hV
  have lt0 : ∀ x ∈ p0, x.block < W.heap.size := by obtain ⟨m, hm⟩ := h0; exact DataW.trod_lt m _ _ _ hm
  have o0 := op_of hsz (j := 0) rfl rfl h0
  refine (MsgReads_walk v0 W (hval 0 _ v0 rfl rfl) o0).mono fun e W' ⟨he, bel⟩ => ?_
  subst he
  exact ⟨_, rfl, _, _, _, [], _, [], hW', trodAll_mk1 (shut_bool Try.underlying4 _), (trodAll_cons_mk (Below.trod (by kernel_rfl) (by kernel_rfl) (of_decide_eq_true (by kernel_rfl)) h0 bel lt0) trodAll_mk0), rfl, bel.frame _, fun h => by cases h⟩

/-- The statement. -/
theorem MsgReads_holds : Rows.MsgReadsSaid :=
  OpenClaim.holds_of_wide 5 Try.f5 rfl rfl rfl rfl rfl rfl rfl ⟨rfl, rfl, rfl, rfl, rfl⟩ rfl rfl rfl rfl rfl (by kernel_rfl) Try.func5 (by kernel_rfl)
    (of_decide_eq_true (by kernel_rfl)) (by unfold Func.isWrapper; rw [if_neg (of_decide_eq_false (by kernel_rfl))]; exact ⟨rfl, rfl⟩)
    (fun os started H enc _ => MsgReads_lifted os started H enc)
#print axioms MsgReads_holds
end Go.Proofs.Ytihklmomipidaaa
