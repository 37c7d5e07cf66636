/-
  What a chain's Add does. Condition: a chain of at most 2^40 lines, a line's numbers those of an int.
-/
import Derived.Test.YtdiacfbflbenoaaAuditG
import Derived.Test.YtdiacfbflbenoaaAuditB
namespace Go.Proofs.Ytdiacfbflbenoaa
open Go.RowKit
set_option linter.unusedSimpArgs false
set_option linter.unusedVariables false
set_option maxRecDepth 100000

theorem Step.up {w w' : World} (h : Step [] [] w w') (S : List Nat) : Step S S w w' := by simpa using h.frame S
theorem add_nil (x : Ln) (w : World) : Calls Try.prog 10 #[.pointer none, lnV x] w fun e w' => e = .returned (.bool false) ∧ Step [] [] w w' := by
  go_enter Try.func10, Try.ntmps10
  go_wp2_with fail
  exact bodyPost_ret (results_tmp rfl _ _ _) rfl ⟨rfl, (Step.refl [] w).alloc _⟩

def AddPost (p : Nat) (S : List Nat) (c : Ch) (x : Ln) (w : World) (e : Ending) (w' : World) : Prop := ∃ S', e = .returned (.bool (canAdd c x)) ∧ Chn w' p S' (addL c x) ∧ Step S S' w w'
theorem lnc_one (x : Ln) : ∀ u ∈ lnc x, u.oneCell' = true := by
  intro u hu
  simp [lnc] at hu
  rcases hu with rfl | rfl | rfl | rfl | rfl | rfl | rfl | rfl <;> rfl
theorem canAdd_yes {c : Ch} {x : Ln} (h1 : rightLn x = true) (h2 : (headL c.base c.ls).count < 1099511627776) (h3 : ∀ i, lastI c.ls = some i → i < x.index) : canAdd c x = true := by
  simp only [canAdd, h1, Bool.true_and, Bool.and_eq_true, decide_eq_true_eq]
  exact ⟨h2, h3⟩
theorem canAdd_no {c : Ch} {x : Ln} {i : Int} (h1 : lastI c.ls = some i) (h2 : x.index ≤ i) : canAdd c x = false := by
  have : ¬ (∀ j, lastI c.ls = some j → j < x.index) := fun h => by have := h i h1; omega
  simp [canAdd, this]
theorem addL_no {c : Ch} {x : Ln} (h : canAdd c x = false) : addL c x = c := by simp [addL, h]
set_option maxHeartbeats 4000000 in
theorem add_any (p : Nat) (S : List Nat) (c : Ch) (x : Ln) (w : World) (h : Chn w p S c) (hc : ChOk c) (hx : LnOk x) (hh : (headL c.base c.ls).hash.length ≤ 1073741824) :
    Calls Try.prog 10 #[.pointer (some ⟨p, 0, none⟩), lnV x] w (AddPost p S c x w) := by
  have HB : Hid (Blk (w.alloc (.cells (lnc x).toArray 32)) w.heap.size 32 (lnc x).toArray ∧ Step [] [] w (w.alloc (.cells (lnc x).toArray 32))) := ⟨Blk.new w _ _, (Step.refl [] w).alloc _⟩
  have hC := Lib.hid (And.intro h (And.intro hc (And.intro hx hh)))
  have bl := HB.out.1.ln
  have ll := HB.out.1.lt
  clear h hc hx hh
  go_enter Try.func10, Try.ntmps10
  go_wp2_with fail
  refine (lineRight_any x _).mono ?_
  rintro e w1 ⟨rfl, k1⟩
  have H1 : Hid (Blk w1 w.heap.size 32 (lnc x).toArray ∧ Step [] [] w w1 ∧ Chn w1 p S c) := ⟨HB.out.1.step k1 (by simp), HB.out.2.trans k1, hC.out.1.step (HB.out.2.trans k1) (by simp)⟩
  clear k1 HB bl ll
  cases hr : rightLn x with
  | false =>
    have HN := Lib.hid (show canAdd c x = false by simp [canAdd, hr])
    clear hr
    go_wp2_with fail
    refine bodyPost_ret (results_tmp rfl _ _ _) rfl ⟨S, ?_, ?_, H1.out.2.1.up S⟩
    · rw [HN.out]; rfl
    · rw [addL_no HN.out]
      exact H1.out.2.2
  | true =>
    go_wp2_with fail
    refine (headIn_any p S c w1 H1.out.2.2 hC.out.2.1).mono ?_
    rintro e w2 ⟨rfl, k2⟩
    have H2 : Hid (Blk w2 w.heap.size 32 (lnc x).toArray ∧ Step [] [] w w2 ∧ Chn w2 p S c ∧ rightLn x = true) := ⟨H1.out.1.step k2 (by simp), H1.out.2.1.trans k2, H1.out.2.2.step k2 (by simp), hr⟩
    clear k2 H1 hr
    go_wp2_with fail
    obtain ⟨q, hq⟩ : ∃ q, q = headL c.base c.ls := ⟨_, rfl⟩
    rw [← hq]
    obtain ⟨V, hV⟩ : ∃ V, V = w2.alloc (.cells #[.int .i64 q.count, Str q.hash] 57) := ⟨_, rfl⟩
    rw [← hV]
    have H3 : Hid (Blk V w.heap.size 32 (lnc x).toArray ∧ Blk V w2.heap.size 57 #[.int .i64 q.count, Str q.hash] ∧ Step [] [] w V ∧ Chn V p S c ∧ rightLn x = true ∧ q = headL c.base c.ls ∧ w.heap.size < w2.heap.size) := by
      rw [hV]
      exact ⟨H2.out.1.alloc _, Blk.new w2 _ _, H2.out.2.1.alloc _, H2.out.2.2.1.step ((Step.refl [] w2).alloc _) (by simp), H2.out.2.2.2, hq, H2.out.1.lt⟩
    clear hV hq H2
    have z := H3.out.2.1.pt
    have z0 := H3.out.2.1.lt
    by_cases hm : 1099511627776 ≤ q.count
    · have HN := Lib.hid (show canAdd c x = false by simp [canAdd, ← H3.out.2.2.2.2.2.1]; omega)
      have hmd : decide (1099511627776 ≤ q.count) = true := decide_eq_true hm
      clear hm
      go_quiet (fail)
      go_wp2_with fail
      refine bodyPost_ret (results_tmp rfl _ _ _) rfl ⟨S, ?_, ?_, (H3.out.2.2.1.drewN _).up S⟩
      · rw [HN.out]; rfl
      · rw [addL_no HN.out]
        exact H3.out.2.2.2.1.step ((Step.refl [] V).drewN _) (by simp)
    · have hmd : decide (1099511627776 ≤ q.count) = false := decide_eq_false hm
      have HQ : Hid (q.count = c.base.count + c.ls.length ∧ q.hash.length ≤ 1073741824 ∧ q = headL c.base c.ls) := ⟨by rw [H3.out.2.2.2.2.2.1, headL_count], by rw [H3.out.2.2.2.2.2.1]; exact hC.out.2.2.2, H3.out.2.2.2.2.2.1⟩
      obtain ⟨a, cap, HCH⟩ : ∃ a cap, Hid (Blk V p 59 #[.int .i64 c.base.count, Str c.base.hash, .slice a c.ls.length cap] ∧ Row V 8 a c.ls.length cap (lncs c.ls) ∧ p ∉ blks a ∧ S = p :: blks a) := H3.out.2.2.2.1
      have c2 := HCH.out.1.cell 2
      have hp := HCH.out.1.lt
      have bl := H3.out.1.ln
      have ll := H3.out.1.lt
      have hll := hC.out.2.1.len
      have hcc := hC.out.2.1.count
      simp only [List.getElem?_toArray, List.getElem?_cons_zero, List.getElem?_cons_succ] at c2
      rcases List.eq_nil_or_concat c.ls with hl | ⟨ys, y, hl⟩
      · have hl0 : c.ls.length = 0 := by rw [hl]; rfl
        have hld : decide (0 < c.ls.length) = false := decide_eq_false (by omega)
        have hYES := Lib.hid (show canAdd c x = true from canAdd_yes H3.out.2.2.2.2.1 (by rw [← H3.out.2.2.2.2.2.1]; omega) (by rw [hl]; simp [lastI]))
        clear hl hl0 hm
        go_quiet (fail)
        obtain ⟨U, hU⟩ : ∃ U, U = V.drewN nq := ⟨_, rfl⟩
        rw [← hU]
        have H4 : Hid (Blk U w.heap.size 32 (lnc x).toArray ∧ Blk U w2.heap.size 57 #[.int .i64 q.count, Str q.hash] ∧ Step [] [] w U ∧ Blk U p 59 #[.int .i64 c.base.count, Str c.base.hash, .slice a c.ls.length cap] ∧ Row U 8 a c.ls.length cap (lncs c.ls) ∧ p ∉ blks a ∧ S = p :: blks a) := by
          have k := (Step.refl [] V).drewN nq
          rw [hU]
          exact ⟨H3.out.1.step k (by simp), H3.out.2.1.step k (by simp), H3.out.2.2.1.drewN _, HCH.out.1.step k (by simp), HCH.out.2.1.step k (by simp), HCH.out.2.2.1, HCH.out.2.2.2⟩
        clear hU z z0 bl ll c2 hp hmd hld
        have z := H4.out.2.1.pt
        have bl := H4.out.1.ln
        have ll := H4.out.1.lt
        have z0 := H4.out.2.1.lt
        go_wp2_with fail
        refine (auditNext_any q.count q.hash x U (by have := HQ.out.1; omega) (by have := HQ.out.1; omega) hC.out.2.2.1 HQ.out.2.1).mono ?_
        rintro e w6 ⟨rfl, k6⟩
        have H5 : Hid (Blk w6 w.heap.size 32 (lnc x).toArray ∧ Step [] [] w w6 ∧ Blk w6 p 59 #[.int .i64 c.base.count, Str c.base.hash, .slice a c.ls.length cap] ∧ Row w6 8 a c.ls.length cap (lncs c.ls) ∧ p ∉ blks a ∧ S = p :: blks a) :=
          ⟨H4.out.1.step k6 (by simp), H4.out.2.2.1.trans k6, H4.out.2.2.2.1.step k6 (by simp), H4.out.2.2.2.2.1.step k6 (by simp), H4.out.2.2.2.2.2⟩
        have hpw : p ≠ w.heap.size := by intro e; have := (hC.out.1).lt p (by rw [H4.out.2.2.2.2.2.2]; simp); omega
        clear k6 H4 z bl ll z0
        have bl := H5.out.1.ln
        have ll := H5.out.1.lt
        have f7 := H5.out.1.frozen 7
        go_wp2_with fail
        obtain ⟨x1, hx1⟩ : ∃ x1 : Ln, x1 = { x with hash := nextL q.count q.hash x } := ⟨_, rfl⟩
        obtain ⟨W7, hW7⟩ : ∃ W7, W7 = w6.setCell ⟨w.heap.size, 7, none⟩ (Str (nextL q.count q.hash x)) := ⟨_, rfl⟩
        rw [← hW7]
        have H6 : Hid (Blk W7 w.heap.size 32 (lnc x1).toArray ∧ Step [] [] w W7 ∧ Blk W7 p 59 #[.int .i64 c.base.count, Str c.base.hash, .slice a c.ls.length cap] ∧ Row W7 8 a c.ls.length cap (lncs c.ls) ∧ w.heap.size ∉ blks a ∧ p ∉ blks a ∧ S = p :: blks a) := by
          have st : Step [w.heap.size] [w.heap.size] w6 W7 := by rw [hW7]; exact (Step.refl _ w6).setCell (.inl (by simp)) _
          have hna : w.heap.size ∉ blks a := fun hg => by have := (hC.out.1).lt w.heap.size (by rw [H5.out.2.2.2.2.2]; simp [hg]); omega
          refine ⟨?_, ?_, ?_, ?_, hna, H5.out.2.2.2.2⟩
          · rw [hW7, hx1]; exact H5.out.1.set 7 (Str (nextL q.count q.hash x))
          · rw [hW7]; exact H5.out.2.1.setCell (.inr (Nat.le_refl _)) _
          · exact H5.out.2.2.1.step st (by simpa using hpw)
          · exact H5.out.2.2.2.1.step st (fun g hg e => by simp at e; subst e; exact hna hg)
        have HX1 : Hid (x1 = addedL c x) := by show _ = _; rw [hx1, HQ.out.2.2]; rfl
        clear hW7 H5 bl ll f7 hx1
        have hp := H6.out.2.2.1.lt
        have c2 := H6.out.2.2.1.cell 2
        have HPW := Lib.hid hpw
        clear hpw
        simp only [List.getElem?_toArray, List.getElem?_cons_zero, List.getElem?_cons_succ] at c2
        obtain ⟨i0, hi, hz0, hz1, hz2⟩ := info_parts Try.info_line
        have HI := Lib.hid (And.intro hi (And.intro hz0 (And.intro hz1 hz2)))
        clear hi hz0 hz1 hz2
        refine wp_region_held_drew (S := fun W => Hid (Blk W w.heap.size 32 (lnc x1).toArray)) (by kernel_rfl) (H6.out.1.drew) (fun hHeld => ?_)
        refine wpAnyH_take (i := 0) (v := ?_) rfl (by kernel_rfl) (by kernel_rfl) (by kernel_rfl) (fun _ _ _ h => h) (Or.inl ⟨by rfl, ?_⟩) hHeld ?_
        rotate_left
        · intro w hSw
          have hSw1 := hSw
          clear hSw
          try dsimp only at hSw1
          go_simp
          try (with_reducible rfl)
        try simp only [Act.put, List.setIfInBounds_toArray, List.set_cons_zero, List.set_cons_succ, List.getElem_toArray, List.getElem_cons_zero, List.getElem_cons_succ]
        refine wpAnyH_take (i := 1) (v := ?_) rfl (by kernel_rfl) (by kernel_rfl) (by kernel_rfl) (fun _ _ _ h => h) (Or.inl ⟨by rfl, ?_⟩) hHeld ?_
        rotate_left
        · intro w hSw
          have hSw1 := hSw
          clear hSw
          try dsimp only at hSw1
          go_simp
          try (with_reducible rfl)
        try simp only [Act.put, List.setIfInBounds_toArray, List.set_cons_zero, List.set_cons_succ, List.getElem_toArray, List.getElem_cons_zero, List.getElem_cons_succ]
        refine wpAnyH_take (i := 2) (v := ?_) rfl (by kernel_rfl) (by kernel_rfl) (by kernel_rfl) (fun _ _ _ h => h) (Or.inl ⟨by rfl, ?_⟩) hHeld ?_
        rotate_left
        · intro w hSw
          have hSw1 := hSw
          clear hSw
          try dsimp only at hSw1
          go_simp
          try (with_reducible rfl)
        try simp only [Act.put, List.setIfInBounds_toArray, List.set_cons_zero, List.set_cons_succ, List.getElem_toArray, List.getElem_cons_zero, List.getElem_cons_succ]
        refine wpAnyH_take (i := 3) (v := ?_) rfl (by kernel_rfl) (by kernel_rfl) (by kernel_rfl) (fun _ _ _ h => h) (Or.inl ⟨by rfl, ?_⟩) hHeld ?_
        rotate_left
        · intro w hSw
          have hSw1 := hSw
          clear hSw
          try dsimp only at hSw1
          go_simp
          try (with_reducible rfl)
        try simp only [Act.put, List.setIfInBounds_toArray, List.set_cons_zero, List.set_cons_succ, List.getElem_toArray, List.getElem_cons_zero, List.getElem_cons_succ]
        refine wpAnyH_take (i := 5) (v := ?_) rfl (by kernel_rfl) (by kernel_rfl) (by kernel_rfl) (fun _ _ _ h => h) (Or.inl ⟨by rfl, ?_⟩) hHeld ?_
        rotate_left
        · intro w hSw
          have hSw1 := hSw
          clear hSw
          have hc := hSw1.out.ln
          have hlt := hSw1.out.lt
          go_simp
          try (with_reducible rfl)
        try simp only [Act.put, List.setIfInBounds_toArray, List.set_cons_zero, List.set_cons_succ, List.getElem_toArray, List.getElem_cons_zero, List.getElem_cons_succ]
        refine wpAnyH_ready (rs := [4, 6]) (by kernel_rfl) (by simp) ?_
        refine AllReadyH.cons rfl (fun K hK => ?_) (AllReadyH.cons rfl (fun K hK => ?_) AllReadyH.nil)
        · skip
          go_simp
          skip
          go_wp2_with fail
          refine hK.out _ _ (hHeld.out) (fun hHeld2 => ?_)
          clear hK K hHeld
          try simp only [Act.put, List.setIfInBounds_toArray, List.set_cons_zero, List.set_cons_succ, List.getElem_toArray, List.getElem_cons_zero, List.getElem_cons_succ]
          refine wpAnyH_ready (rs := [6]) (by kernel_rfl) (by simp) ?_
          refine AllReadyH.cons rfl (fun K hK => ?_) AllReadyH.nil
          go_simp
          skip
          go_wp2_with fail
          refine hK.out _ _ (hHeld2.out.alloc _) (fun hHeld3 => ?_)
          clear hK K hHeld2
          try simp only [Act.put, List.setIfInBounds_toArray, List.set_cons_zero, List.set_cons_succ, List.getElem_toArray, List.getElem_cons_zero, List.getElem_cons_succ]
          refine wpAnyH_ready (rs := [7]) (by kernel_rfl) (by simp) ?_
          refine AllReadyH.cons rfl (fun K hK => ?_) AllReadyH.nil
          refine step_append_row rfl (.tmp 55) (.tmp 57) 27 27 rfl 32 i0 _ 8 88 Try.underlying27 HI.out.1 HI.out.2.1 HI.out.2.2.1 HI.out.2.2.2 rfl rfl (H6.out.2.2.2.1.drew.alloc _) rfl (Src.rd 27 32 Try.underlying27 (rd_blk (Blk.new W7.drew 32 (lnc x1).toArray) 8 1 rfl) (lnc_one x1)) (by unfold maxLen; omega) (by omega) (by omega) ?_; intro a9 cap9 w9 hr9 hst9; have h9 := (H6.out.2.2.1.drew.alloc _).step hst9 H6.out.2.2.2.2.2.1; have c9 := h9.cell 2; have f9 := h9.frozen 2; have p9 := h9.lt; have K9 := Lib.hid (And.intro h9 (And.intro hr9 hst9)); clear h9 hr9 hst9; simp only [List.getElem?_toArray, List.getElem?_cons_zero, List.getElem?_cons_succ] at c9
          refine hK.out _ _ (hHeld3.out.step K9.out.2.2 H6.out.2.2.2.2.1) (fun hHeld4 => ?_)
          clear hK K hHeld3
          try simp only [Act.put, List.setIfInBounds_toArray, List.set_cons_zero, List.set_cons_succ, List.getElem_toArray, List.getElem_cons_zero, List.getElem_cons_succ]
          refine wpAnyH_take (i := 8) (v := ?_) rfl (by kernel_rfl) (by kernel_rfl) (by kernel_rfl) (fun _ _ _ h => h) (Or.inl ⟨by rfl, ?_⟩) hHeld4 ?_
          rotate_left
          · intro w hSw
            have hSw1 := hSw
            clear hSw
            try dsimp only at hSw1
            go_simp
            try (with_reducible rfl)
          try simp only [Act.put, List.setIfInBounds_toArray, List.set_cons_zero, List.set_cons_succ, List.getElem_toArray, List.getElem_cons_zero, List.getElem_cons_succ]
          refine wpAnyH_take (i := 9) (v := ?_) rfl (by kernel_rfl) (by kernel_rfl) (by kernel_rfl) (fun _ _ _ h => h) (Or.inl ⟨by rfl, ?_⟩) hHeld4 ?_
          rotate_left
          · intro w hSw
            have hSw1 := hSw
            clear hSw
            try dsimp only at hSw1
            go_simp
            try (with_reducible rfl)
          try simp only [Act.put, List.setIfInBounds_toArray, List.set_cons_zero, List.set_cons_succ, List.getElem_toArray, List.getElem_cons_zero, List.getElem_cons_succ]
          refine wpAnyH_ready (rs := [10]) (by kernel_rfl) (by simp) ?_
          refine AllReadyH.cons rfl (fun K hK => ?_) AllReadyH.nil
          go_simp
          skip
          go_wp2_with fail
          refine hK.out _ _ (hHeld4.out.far HPW.out.symm _) (fun hHeld5 => ?_)
          clear hK K hHeld4
          try simp only [Act.put, List.setIfInBounds_toArray, List.set_cons_zero, List.set_cons_succ, List.getElem_toArray, List.getElem_cons_zero, List.getElem_cons_succ]
          refine wpAnyH_done (by kernel_rfl) ?_ _
          go_wp2_with fail
          have hpa : p ∉ blks a9 := K9.out.2.2.notin (by simp; omega) H6.out.2.2.2.2.2.1
          have hst : Step S (p :: blks a9) w w9 := by
            rw [H6.out.2.2.2.2.2.2]
            exact (((H6.out.2.1.alloc _).drew).up (p :: blks a)).trans (K9.out.2.2.frame [p])
          refine bodyPost_ret (results_tmp rfl _ _ _) rfl ⟨p :: blks a9, ?_, ?_, hst.setCell (.inl (by simp)) _⟩
          · rw [hYES.out]; rfl
          · rw [addL, if_pos hYES.out]
            have hs2 : Step [p] [p] w9 (w9.setCell ⟨p, 2, none⟩ (.slice a9 (c.ls.length + 1) cap9)) := (Step.refl _ w9).setCell (.inl (by simp)) _
            refine ⟨a9, cap9, ?_, ?_, hpa, rfl⟩
            · have := K9.out.1.set 2 (.slice a9 (c.ls.length + 1) cap9)
              simpa using this
            · have := K9.out.2.1.step hs2 (fun g hg e => by simp at e; subst e; exact hpa hg)
              rw [HX1.out] at this
              simpa [lncs] using this
        · skip
          go_simp
          skip
          go_wp2_with fail
          refine hK.out _ _ (hHeld.out.alloc _) (fun hHeld2 => ?_)
          clear hK K hHeld
          try simp only [Act.put, List.setIfInBounds_toArray, List.set_cons_zero, List.set_cons_succ, List.getElem_toArray, List.getElem_cons_zero, List.getElem_cons_succ]
          refine wpAnyH_ready (rs := [4]) (by kernel_rfl) (by simp) ?_
          refine AllReadyH.cons rfl (fun K hK => ?_) AllReadyH.nil
          go_simp
          skip
          go_wp2_with fail
          refine hK.out _ _ (hHeld2.out) (fun hHeld3 => ?_)
          clear hK K hHeld2
          try simp only [Act.put, List.setIfInBounds_toArray, List.set_cons_zero, List.set_cons_succ, List.getElem_toArray, List.getElem_cons_zero, List.getElem_cons_succ]
          refine wpAnyH_ready (rs := [7]) (by kernel_rfl) (by simp) ?_
          refine AllReadyH.cons rfl (fun K hK => ?_) AllReadyH.nil
          refine step_append_row rfl (.tmp 55) (.tmp 57) 27 27 rfl 32 i0 _ 8 88 Try.underlying27 HI.out.1 HI.out.2.1 HI.out.2.2.1 HI.out.2.2.2 rfl rfl (H6.out.2.2.2.1.drew.alloc _) rfl (Src.rd 27 32 Try.underlying27 (rd_blk (Blk.new W7.drew 32 (lnc x1).toArray) 8 1 rfl) (lnc_one x1)) (by unfold maxLen; omega) (by omega) (by omega) ?_; intro a9 cap9 w9 hr9 hst9; have h9 := (H6.out.2.2.1.drew.alloc _).step hst9 H6.out.2.2.2.2.2.1; have c9 := h9.cell 2; have f9 := h9.frozen 2; have p9 := h9.lt; have K9 := Lib.hid (And.intro h9 (And.intro hr9 hst9)); clear h9 hr9 hst9; simp only [List.getElem?_toArray, List.getElem?_cons_zero, List.getElem?_cons_succ] at c9
          refine hK.out _ _ (hHeld3.out.step K9.out.2.2 H6.out.2.2.2.2.1) (fun hHeld4 => ?_)
          clear hK K hHeld3
          try simp only [Act.put, List.setIfInBounds_toArray, List.set_cons_zero, List.set_cons_succ, List.getElem_toArray, List.getElem_cons_zero, List.getElem_cons_succ]
          refine wpAnyH_take (i := 8) (v := ?_) rfl (by kernel_rfl) (by kernel_rfl) (by kernel_rfl) (fun _ _ _ h => h) (Or.inl ⟨by rfl, ?_⟩) hHeld4 ?_
          rotate_left
          · intro w hSw
            have hSw1 := hSw
            clear hSw
            try dsimp only at hSw1
            go_simp
            try (with_reducible rfl)
          try simp only [Act.put, List.setIfInBounds_toArray, List.set_cons_zero, List.set_cons_succ, List.getElem_toArray, List.getElem_cons_zero, List.getElem_cons_succ]
          refine wpAnyH_take (i := 9) (v := ?_) rfl (by kernel_rfl) (by kernel_rfl) (by kernel_rfl) (fun _ _ _ h => h) (Or.inl ⟨by rfl, ?_⟩) hHeld4 ?_
          rotate_left
          · intro w hSw
            have hSw1 := hSw
            clear hSw
            try dsimp only at hSw1
            go_simp
            try (with_reducible rfl)
          try simp only [Act.put, List.setIfInBounds_toArray, List.set_cons_zero, List.set_cons_succ, List.getElem_toArray, List.getElem_cons_zero, List.getElem_cons_succ]
          refine wpAnyH_ready (rs := [10]) (by kernel_rfl) (by simp) ?_
          refine AllReadyH.cons rfl (fun K hK => ?_) AllReadyH.nil
          go_simp
          skip
          go_wp2_with fail
          refine hK.out _ _ (hHeld4.out.far HPW.out.symm _) (fun hHeld5 => ?_)
          clear hK K hHeld4
          try simp only [Act.put, List.setIfInBounds_toArray, List.set_cons_zero, List.set_cons_succ, List.getElem_toArray, List.getElem_cons_zero, List.getElem_cons_succ]
          refine wpAnyH_done (by kernel_rfl) ?_ _
          go_wp2_with fail
          have hpa : p ∉ blks a9 := K9.out.2.2.notin (by simp; omega) H6.out.2.2.2.2.2.1
          have hst : Step S (p :: blks a9) w w9 := by
            rw [H6.out.2.2.2.2.2.2]
            exact (((H6.out.2.1.alloc _).drew).up (p :: blks a)).trans (K9.out.2.2.frame [p])
          refine bodyPost_ret (results_tmp rfl _ _ _) rfl ⟨p :: blks a9, ?_, ?_, hst.setCell (.inl (by simp)) _⟩
          · rw [hYES.out]; rfl
          · rw [addL, if_pos hYES.out]
            have hs2 : Step [p] [p] w9 (w9.setCell ⟨p, 2, none⟩ (.slice a9 (c.ls.length + 1) cap9)) := (Step.refl _ w9).setCell (.inl (by simp)) _
            refine ⟨a9, cap9, ?_, ?_, hpa, rfl⟩
            · have := K9.out.1.set 2 (.slice a9 (c.ls.length + 1) cap9)
              simpa using this
            · have := K9.out.2.1.step hs2 (fun g hg e => by simp at e; subst e; exact hpa hg)
              rw [HX1.out] at this
              simpa [lncs] using this
      · rw [List.concat_eq_append] at hl
        have hlen : c.ls.length = ys.length + 1 := by rw [hl]; simp
        have hy : c.ls[c.ls.length - 1]? = some y := by rw [hlen, hl]; simp
        have hla : lastI c.ls = some y.index := by rw [hl]; simp [lastI]
        obtain ⟨g, off, rfl⟩ := HCH.out.2.1.some_of_pos (by omega)
        have hyc := (rd_line HCH.out.2.1.rd hy).1
        have hgl : g < V.heap.size := HCH.out.2.1.lt g (by simp [blks])
        have hld : decide (0 < c.ls.length) = true := decide_eq_true (by omega)
        have q1 : IntKind.i64.wrap ((c.ls.length : Int) - 1) = (c.ls.length : Int) - 1 := IntWalk.i64_in _ (by omega)
        have q2 : (0 : Int) ≤ (c.ls.length : Int) - 1 := by omega
        have q3 : (c.ls.length : Int) - 1 < c.ls.length := by omega
        have q4 : ((c.ls.length : Int) - 1).toNat = c.ls.length - 1 := by omega
        clear hl hlen hy
        by_cases hle : x.index ≤ y.index
        · have HN := Lib.hid (canAdd_no hla hle)
          have hled : decide (x.index ≤ y.index) = true := decide_eq_true hle
          clear hm hla hle
          go_quiet (fail)
          go_wp2_with fail
          refine bodyPost_ret (results_tmp rfl _ _ _) rfl ⟨S, ?_, ?_, (H3.out.2.2.1.drewN _).up S⟩
          · rw [HN.out]; rfl
          · rw [addL_no HN.out]
            exact H3.out.2.2.2.1.step ((Step.refl [] V).drewN _) (by simp)
        · have hYES := Lib.hid (show canAdd c x = true from canAdd_yes H3.out.2.2.2.2.1 (by rw [← H3.out.2.2.2.2.2.1]; omega) (by rw [hla]; intro i hi; injection hi with hi; omega))
          have hled : decide (x.index ≤ y.index) = false := decide_eq_false hle
          clear hm hla hle
          go_quiet (fail)
          obtain ⟨U, hU⟩ : ∃ U, U = V.drewN nq := ⟨_, rfl⟩
          rw [← hU]
          have H4 : Hid (Blk U w.heap.size 32 (lnc x).toArray ∧ Blk U w2.heap.size 57 #[.int .i64 q.count, Str q.hash] ∧ Step [] [] w U ∧ Blk U p 59 #[.int .i64 c.base.count, Str c.base.hash, .slice (some (⟨g, off, none⟩ : Addr)) c.ls.length cap] ∧ Row U 8 (some (⟨g, off, none⟩ : Addr)) c.ls.length cap (lncs c.ls) ∧ p ∉ blks (some (⟨g, off, none⟩ : Addr)) ∧ S = p :: blks (some (⟨g, off, none⟩ : Addr))) := by
            have k := (Step.refl [] V).drewN nq
            rw [hU]
            exact ⟨H3.out.1.step k (by simp), H3.out.2.1.step k (by simp), H3.out.2.2.1.drewN _, HCH.out.1.step k (by simp), HCH.out.2.1.step k (by simp), HCH.out.2.2.1, HCH.out.2.2.2⟩
          clear hU z z0 bl ll c2 hp hmd q1 q2 q3 q4 hyc hgl hld hled
          have z := H4.out.2.1.pt
          have bl := H4.out.1.ln
          have ll := H4.out.1.lt
          have z0 := H4.out.2.1.lt
          go_wp2_with fail
          refine (auditNext_any q.count q.hash x U (by have := HQ.out.1; omega) (by have := HQ.out.1; omega) hC.out.2.2.1 HQ.out.2.1).mono ?_
          rintro e w6 ⟨rfl, k6⟩
          have H5 : Hid (Blk w6 w.heap.size 32 (lnc x).toArray ∧ Step [] [] w w6 ∧ Blk w6 p 59 #[.int .i64 c.base.count, Str c.base.hash, .slice (some (⟨g, off, none⟩ : Addr)) c.ls.length cap] ∧ Row w6 8 (some (⟨g, off, none⟩ : Addr)) c.ls.length cap (lncs c.ls) ∧ p ∉ blks (some (⟨g, off, none⟩ : Addr)) ∧ S = p :: blks (some (⟨g, off, none⟩ : Addr))) :=
            ⟨H4.out.1.step k6 (by simp), H4.out.2.2.1.trans k6, H4.out.2.2.2.1.step k6 (by simp), H4.out.2.2.2.2.1.step k6 (by simp), H4.out.2.2.2.2.2⟩
          have hpw : p ≠ w.heap.size := by intro e; have := (hC.out.1).lt p (by rw [H4.out.2.2.2.2.2.2]; simp); omega
          clear k6 H4 z bl ll z0
          have bl := H5.out.1.ln
          have ll := H5.out.1.lt
          have f7 := H5.out.1.frozen 7
          go_wp2_with fail
          obtain ⟨x1, hx1⟩ : ∃ x1 : Ln, x1 = { x with hash := nextL q.count q.hash x } := ⟨_, rfl⟩
          obtain ⟨W7, hW7⟩ : ∃ W7, W7 = w6.setCell ⟨w.heap.size, 7, none⟩ (Str (nextL q.count q.hash x)) := ⟨_, rfl⟩
          rw [← hW7]
          have H6 : Hid (Blk W7 w.heap.size 32 (lnc x1).toArray ∧ Step [] [] w W7 ∧ Blk W7 p 59 #[.int .i64 c.base.count, Str c.base.hash, .slice (some (⟨g, off, none⟩ : Addr)) c.ls.length cap] ∧ Row W7 8 (some (⟨g, off, none⟩ : Addr)) c.ls.length cap (lncs c.ls) ∧ w.heap.size ∉ blks (some (⟨g, off, none⟩ : Addr)) ∧ p ∉ blks (some (⟨g, off, none⟩ : Addr)) ∧ S = p :: blks (some (⟨g, off, none⟩ : Addr))) := by
            have st : Step [w.heap.size] [w.heap.size] w6 W7 := by rw [hW7]; exact (Step.refl _ w6).setCell (.inl (by simp)) _
            have hna : w.heap.size ∉ blks (some (⟨g, off, none⟩ : Addr)) := fun hg => by have := (hC.out.1).lt w.heap.size (by rw [H5.out.2.2.2.2.2]; simp [hg]); omega
            refine ⟨?_, ?_, ?_, ?_, hna, H5.out.2.2.2.2⟩
            · rw [hW7, hx1]; exact H5.out.1.set 7 (Str (nextL q.count q.hash x))
            · rw [hW7]; exact H5.out.2.1.setCell (.inr (Nat.le_refl _)) _
            · exact H5.out.2.2.1.step st (by simpa using hpw)
            · exact H5.out.2.2.2.1.step st (fun g hg e => by simp at e; subst e; exact hna hg)
          have HX1 : Hid (x1 = addedL c x) := by show _ = _; rw [hx1, HQ.out.2.2]; rfl
          clear hW7 H5 bl ll f7 hx1
          have hp := H6.out.2.2.1.lt
          have c2 := H6.out.2.2.1.cell 2
          have HPW := Lib.hid hpw
          clear hpw
          simp only [List.getElem?_toArray, List.getElem?_cons_zero, List.getElem?_cons_succ] at c2
          obtain ⟨i0, hi, hz0, hz1, hz2⟩ := info_parts Try.info_line
          have HI := Lib.hid (And.intro hi (And.intro hz0 (And.intro hz1 hz2)))
          clear hi hz0 hz1 hz2
          refine wp_region_held_drew (S := fun W => Hid (Blk W w.heap.size 32 (lnc x1).toArray)) (by kernel_rfl) (H6.out.1.drew) (fun hHeld => ?_)
          refine wpAnyH_take (i := 0) (v := ?_) rfl (by kernel_rfl) (by kernel_rfl) (by kernel_rfl) (fun _ _ _ h => h) (Or.inl ⟨by rfl, ?_⟩) hHeld ?_
          rotate_left
          · intro w hSw
            have hSw1 := hSw
            clear hSw
            try dsimp only at hSw1
            go_simp
            try (with_reducible rfl)
          try simp only [Act.put, List.setIfInBounds_toArray, List.set_cons_zero, List.set_cons_succ, List.getElem_toArray, List.getElem_cons_zero, List.getElem_cons_succ]
          refine wpAnyH_take (i := 1) (v := ?_) rfl (by kernel_rfl) (by kernel_rfl) (by kernel_rfl) (fun _ _ _ h => h) (Or.inl ⟨by rfl, ?_⟩) hHeld ?_
          rotate_left
          · intro w hSw
            have hSw1 := hSw
            clear hSw
            try dsimp only at hSw1
            go_simp
            try (with_reducible rfl)
          try simp only [Act.put, List.setIfInBounds_toArray, List.set_cons_zero, List.set_cons_succ, List.getElem_toArray, List.getElem_cons_zero, List.getElem_cons_succ]
          refine wpAnyH_take (i := 2) (v := ?_) rfl (by kernel_rfl) (by kernel_rfl) (by kernel_rfl) (fun _ _ _ h => h) (Or.inl ⟨by rfl, ?_⟩) hHeld ?_
          rotate_left
          · intro w hSw
            have hSw1 := hSw
            clear hSw
            try dsimp only at hSw1
            go_simp
            try (with_reducible rfl)
          try simp only [Act.put, List.setIfInBounds_toArray, List.set_cons_zero, List.set_cons_succ, List.getElem_toArray, List.getElem_cons_zero, List.getElem_cons_succ]
          refine wpAnyH_take (i := 3) (v := ?_) rfl (by kernel_rfl) (by kernel_rfl) (by kernel_rfl) (fun _ _ _ h => h) (Or.inl ⟨by rfl, ?_⟩) hHeld ?_
          rotate_left
          · intro w hSw
            have hSw1 := hSw
            clear hSw
            try dsimp only at hSw1
            go_simp
            try (with_reducible rfl)
          try simp only [Act.put, List.setIfInBounds_toArray, List.set_cons_zero, List.set_cons_succ, List.getElem_toArray, List.getElem_cons_zero, List.getElem_cons_succ]
          refine wpAnyH_take (i := 5) (v := ?_) rfl (by kernel_rfl) (by kernel_rfl) (by kernel_rfl) (fun _ _ _ h => h) (Or.inl ⟨by rfl, ?_⟩) hHeld ?_
          rotate_left
          · intro w hSw
            have hSw1 := hSw
            clear hSw
            have hc := hSw1.out.ln
            have hlt := hSw1.out.lt
            go_simp
            try (with_reducible rfl)
          try simp only [Act.put, List.setIfInBounds_toArray, List.set_cons_zero, List.set_cons_succ, List.getElem_toArray, List.getElem_cons_zero, List.getElem_cons_succ]
          refine wpAnyH_ready (rs := [4, 6]) (by kernel_rfl) (by simp) ?_
          refine AllReadyH.cons rfl (fun K hK => ?_) (AllReadyH.cons rfl (fun K hK => ?_) AllReadyH.nil)
          · skip
            go_simp
            skip
            go_wp2_with fail
            refine hK.out _ _ (hHeld.out) (fun hHeld2 => ?_)
            clear hK K hHeld
            try simp only [Act.put, List.setIfInBounds_toArray, List.set_cons_zero, List.set_cons_succ, List.getElem_toArray, List.getElem_cons_zero, List.getElem_cons_succ]
            refine wpAnyH_ready (rs := [6]) (by kernel_rfl) (by simp) ?_
            refine AllReadyH.cons rfl (fun K hK => ?_) AllReadyH.nil
            go_simp
            skip
            go_wp2_with fail
            refine hK.out _ _ (hHeld2.out.alloc _) (fun hHeld3 => ?_)
            clear hK K hHeld2
            try simp only [Act.put, List.setIfInBounds_toArray, List.set_cons_zero, List.set_cons_succ, List.getElem_toArray, List.getElem_cons_zero, List.getElem_cons_succ]
            refine wpAnyH_ready (rs := [7]) (by kernel_rfl) (by simp) ?_
            refine AllReadyH.cons rfl (fun K hK => ?_) AllReadyH.nil
            refine step_append_row rfl (.tmp 55) (.tmp 57) 27 27 rfl 32 i0 _ 8 88 Try.underlying27 HI.out.1 HI.out.2.1 HI.out.2.2.1 HI.out.2.2.2 rfl rfl (H6.out.2.2.2.1.drew.alloc _) rfl (Src.rd 27 32 Try.underlying27 (rd_blk (Blk.new W7.drew 32 (lnc x1).toArray) 8 1 rfl) (lnc_one x1)) (by unfold maxLen; omega) (by omega) (by omega) ?_; intro a9 cap9 w9 hr9 hst9; have h9 := (H6.out.2.2.1.drew.alloc _).step hst9 H6.out.2.2.2.2.2.1; have c9 := h9.cell 2; have f9 := h9.frozen 2; have p9 := h9.lt; have K9 := Lib.hid (And.intro h9 (And.intro hr9 hst9)); clear h9 hr9 hst9; simp only [List.getElem?_toArray, List.getElem?_cons_zero, List.getElem?_cons_succ] at c9
            refine hK.out _ _ (hHeld3.out.step K9.out.2.2 H6.out.2.2.2.2.1) (fun hHeld4 => ?_)
            clear hK K hHeld3
            try simp only [Act.put, List.setIfInBounds_toArray, List.set_cons_zero, List.set_cons_succ, List.getElem_toArray, List.getElem_cons_zero, List.getElem_cons_succ]
            refine wpAnyH_take (i := 8) (v := ?_) rfl (by kernel_rfl) (by kernel_rfl) (by kernel_rfl) (fun _ _ _ h => h) (Or.inl ⟨by rfl, ?_⟩) hHeld4 ?_
            rotate_left
            · intro w hSw
              have hSw1 := hSw
              clear hSw
              try dsimp only at hSw1
              go_simp
              try (with_reducible rfl)
            try simp only [Act.put, List.setIfInBounds_toArray, List.set_cons_zero, List.set_cons_succ, List.getElem_toArray, List.getElem_cons_zero, List.getElem_cons_succ]
            refine wpAnyH_take (i := 9) (v := ?_) rfl (by kernel_rfl) (by kernel_rfl) (by kernel_rfl) (fun _ _ _ h => h) (Or.inl ⟨by rfl, ?_⟩) hHeld4 ?_
            rotate_left
            · intro w hSw
              have hSw1 := hSw
              clear hSw
              try dsimp only at hSw1
              go_simp
              try (with_reducible rfl)
            try simp only [Act.put, List.setIfInBounds_toArray, List.set_cons_zero, List.set_cons_succ, List.getElem_toArray, List.getElem_cons_zero, List.getElem_cons_succ]
            refine wpAnyH_ready (rs := [10]) (by kernel_rfl) (by simp) ?_
            refine AllReadyH.cons rfl (fun K hK => ?_) AllReadyH.nil
            go_simp
            skip
            go_wp2_with fail
            refine hK.out _ _ (hHeld4.out.far HPW.out.symm _) (fun hHeld5 => ?_)
            clear hK K hHeld4
            try simp only [Act.put, List.setIfInBounds_toArray, List.set_cons_zero, List.set_cons_succ, List.getElem_toArray, List.getElem_cons_zero, List.getElem_cons_succ]
            refine wpAnyH_done (by kernel_rfl) ?_ _
            go_wp2_with fail
            have hpa : p ∉ blks a9 := K9.out.2.2.notin (by simp; omega) H6.out.2.2.2.2.2.1
            have hst : Step S (p :: blks a9) w w9 := by
              rw [H6.out.2.2.2.2.2.2]
              exact (((H6.out.2.1.alloc _).drew).up (p :: blks (some (⟨g, off, none⟩ : Addr)))).trans (K9.out.2.2.frame [p])
            refine bodyPost_ret (results_tmp rfl _ _ _) rfl ⟨p :: blks a9, ?_, ?_, hst.setCell (.inl (by simp)) _⟩
            · rw [hYES.out]; rfl
            · rw [addL, if_pos hYES.out]
              have hs2 : Step [p] [p] w9 (w9.setCell ⟨p, 2, none⟩ (.slice a9 (c.ls.length + 1) cap9)) := (Step.refl _ w9).setCell (.inl (by simp)) _
              refine ⟨a9, cap9, ?_, ?_, hpa, rfl⟩
              · have := K9.out.1.set 2 (.slice a9 (c.ls.length + 1) cap9)
                simpa using this
              · have := K9.out.2.1.step hs2 (fun g hg e => by simp at e; subst e; exact hpa hg)
                rw [HX1.out] at this
                simpa [lncs] using this
          · skip
            go_simp
            skip
            go_wp2_with fail
            refine hK.out _ _ (hHeld.out.alloc _) (fun hHeld2 => ?_)
            clear hK K hHeld
            try simp only [Act.put, List.setIfInBounds_toArray, List.set_cons_zero, List.set_cons_succ, List.getElem_toArray, List.getElem_cons_zero, List.getElem_cons_succ]
            refine wpAnyH_ready (rs := [4]) (by kernel_rfl) (by simp) ?_
            refine AllReadyH.cons rfl (fun K hK => ?_) AllReadyH.nil
            go_simp
            skip
            go_wp2_with fail
            refine hK.out _ _ (hHeld2.out) (fun hHeld3 => ?_)
            clear hK K hHeld2
            try simp only [Act.put, List.setIfInBounds_toArray, List.set_cons_zero, List.set_cons_succ, List.getElem_toArray, List.getElem_cons_zero, List.getElem_cons_succ]
            refine wpAnyH_ready (rs := [7]) (by kernel_rfl) (by simp) ?_
            refine AllReadyH.cons rfl (fun K hK => ?_) AllReadyH.nil
            refine step_append_row rfl (.tmp 55) (.tmp 57) 27 27 rfl 32 i0 _ 8 88 Try.underlying27 HI.out.1 HI.out.2.1 HI.out.2.2.1 HI.out.2.2.2 rfl rfl (H6.out.2.2.2.1.drew.alloc _) rfl (Src.rd 27 32 Try.underlying27 (rd_blk (Blk.new W7.drew 32 (lnc x1).toArray) 8 1 rfl) (lnc_one x1)) (by unfold maxLen; omega) (by omega) (by omega) ?_; intro a9 cap9 w9 hr9 hst9; have h9 := (H6.out.2.2.1.drew.alloc _).step hst9 H6.out.2.2.2.2.2.1; have c9 := h9.cell 2; have f9 := h9.frozen 2; have p9 := h9.lt; have K9 := Lib.hid (And.intro h9 (And.intro hr9 hst9)); clear h9 hr9 hst9; simp only [List.getElem?_toArray, List.getElem?_cons_zero, List.getElem?_cons_succ] at c9
            refine hK.out _ _ (hHeld3.out.step K9.out.2.2 H6.out.2.2.2.2.1) (fun hHeld4 => ?_)
            clear hK K hHeld3
            try simp only [Act.put, List.setIfInBounds_toArray, List.set_cons_zero, List.set_cons_succ, List.getElem_toArray, List.getElem_cons_zero, List.getElem_cons_succ]
            refine wpAnyH_take (i := 8) (v := ?_) rfl (by kernel_rfl) (by kernel_rfl) (by kernel_rfl) (fun _ _ _ h => h) (Or.inl ⟨by rfl, ?_⟩) hHeld4 ?_
            rotate_left
            · intro w hSw
              have hSw1 := hSw
              clear hSw
              try dsimp only at hSw1
              go_simp
              try (with_reducible rfl)
            try simp only [Act.put, List.setIfInBounds_toArray, List.set_cons_zero, List.set_cons_succ, List.getElem_toArray, List.getElem_cons_zero, List.getElem_cons_succ]
            refine wpAnyH_take (i := 9) (v := ?_) rfl (by kernel_rfl) (by kernel_rfl) (by kernel_rfl) (fun _ _ _ h => h) (Or.inl ⟨by rfl, ?_⟩) hHeld4 ?_
            rotate_left
            · intro w hSw
              have hSw1 := hSw
              clear hSw
              try dsimp only at hSw1
              go_simp
              try (with_reducible rfl)
            try simp only [Act.put, List.setIfInBounds_toArray, List.set_cons_zero, List.set_cons_succ, List.getElem_toArray, List.getElem_cons_zero, List.getElem_cons_succ]
            refine wpAnyH_ready (rs := [10]) (by kernel_rfl) (by simp) ?_
            refine AllReadyH.cons rfl (fun K hK => ?_) AllReadyH.nil
            go_simp
            skip
            go_wp2_with fail
            refine hK.out _ _ (hHeld4.out.far HPW.out.symm _) (fun hHeld5 => ?_)
            clear hK K hHeld4
            try simp only [Act.put, List.setIfInBounds_toArray, List.set_cons_zero, List.set_cons_succ, List.getElem_toArray, List.getElem_cons_zero, List.getElem_cons_succ]
            refine wpAnyH_done (by kernel_rfl) ?_ _
            go_wp2_with fail
            have hpa : p ∉ blks a9 := K9.out.2.2.notin (by simp; omega) H6.out.2.2.2.2.2.1
            have hst : Step S (p :: blks a9) w w9 := by
              rw [H6.out.2.2.2.2.2.2]
              exact (((H6.out.2.1.alloc _).drew).up (p :: blks (some (⟨g, off, none⟩ : Addr)))).trans (K9.out.2.2.frame [p])
            refine bodyPost_ret (results_tmp rfl _ _ _) rfl ⟨p :: blks a9, ?_, ?_, hst.setCell (.inl (by simp)) _⟩
            · rw [hYES.out]; rfl
            · rw [addL, if_pos hYES.out]
              have hs2 : Step [p] [p] w9 (w9.setCell ⟨p, 2, none⟩ (.slice a9 (c.ls.length + 1) cap9)) := (Step.refl _ w9).setCell (.inl (by simp)) _
              refine ⟨a9, cap9, ?_, ?_, hpa, rfl⟩
              · have := K9.out.1.set 2 (.slice a9 (c.ls.length + 1) cap9)
                simpa using this
              · have := K9.out.2.1.step hs2 (fun g hg e => by simp at e; subst e; exact hpa hg)
                rw [HX1.out] at this
                simpa [lncs] using this
end Go.Proofs.Ytdiacfbflbenoaa
