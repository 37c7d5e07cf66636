/-
  audit.Collide over two unlike lists of lines that are verified with one head: two unlike texts with one digest. Condition: at most 2^30 lines.
-/
import Derived.Test.YtdiacfbflbenoaaAuditT
import Derived.Test.YtdiacfbflbenoaaAuditEditsPlain
namespace Go.Proofs.Ytdiacfbflbenoaa
open Go.RowKit
set_option linter.unusedSimpArgs false
set_option linter.unusedVariables false
set_option maxRecDepth 100000

theorem eql_ln (x y : Ln) (w : World) : (binOp .eql 32 (lnV x) (lnV y)).run Try.prog w = .ok (.bool (decide (x = y))) w := by
  obtain ⟨a0, a1, a2, a3, a4, a5, a6, a7⟩ := x
  obtain ⟨b0, b1, b2, b3, b4, b5, b6, b7⟩ := y
  go_simp
  repeat' split
  all_goals simp_all
def ColPost (w : World) (e : Ending) (w' : World) : Prop := ∃ x y : List UInt8, e = .returned (.tuple #[Str x, Str y, .bool true]) ∧ x ≠ y ∧ sha x = sha y ∧ x.length ≤ 1099511627776 ∧ y.length ≤ 1099511627776 ∧ Step [] [] w w'
set_option maxHeartbeats 8000000 in
theorem collide_any (was : List UInt8) (l m : List Ln) (N : Nat) (a b : Option Addr) (ca cb : Nat) (w : World) (hl : Rd w 8 a N (lncs l)) (hm : Rd w 8 b N (lncs m)) (h1 : l.length = N) (h2 : m.length = N) (hN : N ≤ 1073741824)
    (hx : ∀ x ∈ l, LnOk x) (hy : ∀ x ∈ m, LnOk x) (vl : Ver was l) (vm : Ver was m) (hw : was.length = 32) (hh : headL ⟨0, was⟩ l = headL ⟨0, was⟩ m) (hne : l ≠ m) :
    Calls Try.prog 21 #[Str was, .slice a N ca, .slice b N cb] w (ColPost w) := by
  have hpos : 0 < N := by
    rcases Nat.eq_zero_or_pos N with h | h
    · exact absurd (by rw [List.eq_nil_of_length_eq_zero (l := l) (by omega), List.eq_nil_of_length_eq_zero (l := m) (by omega)]) hne
    · exact h
  have H0 := Lib.hid (And.intro (And.intro hl hm) (And.intro hx hy))
  have HL := Lib.hid (And.intro h1 h2)
  have HV := Lib.hid (And.intro vl (And.intro vm (And.intro hw (And.intro hh hne))))
  obtain ⟨x0, hx0⟩ : ∃ x0, l[N - 1]? = some x0 := ⟨_, List.getElem?_eq_getElem (by omega)⟩
  obtain ⟨y0, hy0⟩ : ∃ y0, m[N - 1]? = some y0 := ⟨_, List.getElem?_eq_getElem (by omega)⟩
  have hhash : x0.hash = y0.hash := head_hash (k := N - 1) hh (by omega) (by omega) hx0 hy0
  obtain ⟨g, off, rfl⟩ := hl.some_ (by omega)
  obtain ⟨g2, off2, rfl⟩ := hm.some_ (by omega)
  have cx := (rd_line hl hx0).2.2.2.2.2.2.2
  have cy := (rd_line hm hy0).2.2.2.2.2.2.2
  rw [← hhash] at cy
  have HX0 := Lib.hid (And.intro hx0 (And.intro hy0 hhash))
  have gl : g < w.heap.size := by have := World.block_lt_of_cell? _ _ cx; simpa using this
  have gl2 : g2 < w.heap.size := by have := World.block_lt_of_cell? _ _ cy; simpa using this
  have q0 : ((N : Int) == 0) = false := by simp; omega
  have q1 : IntKind.i64.wrap ((N : Int) - 1) = (N : Int) - 1 := IntWalk.i64_in _ (by omega)
  have q2 : (0 : Int) ≤ (N : Int) - 1 := by omega
  have q3 : (N : Int) - 1 < N := by omega
  have q4 : ((N : Int) - 1).toNat = N - 1 := by omega
  have q5 : (1 : Int) ≤ (N : Int) := by omega
  have q6 : N - 1 < N := by omega
  clear hl hm hx hy vl vm hw hh hne hx0 hy0 hhash h1 h2
  go_enter Try.func21, Try.ntmps21
  go_wp2_with fail
  go_quiet (fail)
  clear q0 q1 q2 q3 q4 q6 cx cy
  go_wp2_with fail
  go_loopw [10] (fun v W => ∃ i : Nat, v = .int .i64 i ∧ i < N ∧ Hid (Step [] [] w W ∧ l.drop (i + 1) = m.drop (i + 1) ∧ ∀ x y, l[i]? = some x → m[i]? = some y → x.hash = y.hash)) (fun v _ => (intOf v).toNat)
  case atStart =>
    refine ⟨N - 1, by congr 1; omega, by omega, (Step.refl [] w).drewN _, ?_, ?_⟩
    · rw [List.drop_of_length_le (by have := HL.out.1; omega), List.drop_of_length_le (by have := HL.out.2; omega)]
    · intro x y h3 h4
      rw [HX0.out.1] at h3
      rw [HX0.out.2.1] at h4
      injection h3 with h3
      injection h4 with h4
      rw [← h3, ← h4]
      exact HX0.out.2.2
  case round =>
    clear HX0
    rename World => W
    obtain ⟨i, rfl, hi, HW⟩ := hrel
    have hi2 : (i : Int) < N := by omega
    obtain ⟨x, hx⟩ : ∃ x, l[i]? = some x := ⟨_, List.getElem?_eq_getElem (by have := HL.out.1; omega)⟩
    obtain ⟨y, hy⟩ : ∃ y, m[i]? = some y := ⟨_, List.getElem?_eq_getElem (by have := HL.out.2; omega)⟩
    have HXY := Lib.hid (And.intro hx hy)
    have HOK := Lib.hid (And.intro (H0.out.2.1 x (List.mem_of_getElem? hx)) (H0.out.2.2 y (List.mem_of_getElem? hy)))
    have cx := rd_line (H0.out.1.1.step0 HW.out.1) hx
    have cy := rd_line (H0.out.1.2.step0 HW.out.1) hy
    have gw : g < W.heap.size := by have := World.block_lt_of_cell? _ _ cx.1; simpa using this
    have gw2 : g2 < W.heap.size := by have := World.block_lt_of_cell? _ _ cy.1; simpa using this
    clear hx hy
    by_cases hi0 : i = 0
    · have HP : Hid (prevH was l i = was ∧ prevH was m i = was) := by rw [hi0]; exact ⟨rfl, rfl⟩
      have hd0 : decide (0 < i) = false := decide_eq_false (by omega)
      have HI0 := Lib.hid hi0
      clear hi0
      go_upto_region 10 with fail
      have hvx := HV.out.1.at_ i x HXY.out.1
      have hvy := HV.out.2.1.at_ i y HXY.out.2
      have hp32 := prevH_len HV.out.1 HV.out.2.2.1 i (by have := HL.out.1; omega)
      have hq32 := prevH_len HV.out.2.1 HV.out.2.2.1 i (by have := HL.out.2; omega)
      rw [HP.out.1] at hvx hp32
      rw [HP.out.2] at hvy hq32
      have HVV := Lib.hid (And.intro hvx (And.intro hvy (And.intro hp32 hq32)))
      clear hvx hvy hp32 hq32
      by_cases hxy : x = y
      · exfalso
        have hd := HW.out.2.1
        have := drop_step HXY.out.1 (by rw [HXY.out.2, hxy]) hd
        rw [HI0.out] at this
        exact HV.out.2.2.2.2 (by simpa using this)
      · have hq : ∀ V : World, (binOp .eql 32 (lnV x) (lnV y)).run Try.prog V = .ok (.bool false) V := fun V => by rw [eql_ln]; simp [hxy]
        have HXN := Lib.hid hxy
        clear hxy
        go_quiet (fail)
        clear hq
        go_upto_region 11 with fail
        obtain ⟨hvx, hvy, hp32, hq32⟩ := HVV.out
        obtain ⟨tx, htx⟩ : ∃ tx, tx = textLn ((i : Int) + 1) was x := ⟨_, rfl⟩
        obtain ⟨ty, hty⟩ : ∃ ty, ty = textLn ((i : Int) + 1) was y := ⟨_, rfl⟩
        have HPQ : Hid (was.length = 32 ∧ was.length = 32) := ⟨hp32, hq32⟩
        have hsx : x.hash = sha tx := by rw [htx]; exact hvx.2
        have hsy : y.hash = sha ty := by rw [hty]; exact hvy.2
        have HT : Hid (textLn ((i : Int) + 1) was x = tx ∧ textLn ((i : Int) + 1) was y = ty ∧ tx ≠ ty ∧ sha tx = sha ty ∧ tx.length ≤ 1099511627776 ∧ ty.length ≤ 1099511627776) := by
          refine ⟨htx.symm, hty.symm, fun e => ?_, by rw [← hsx, ← hsy]; exact HW.out.2.2 x y HXY.out.1 HXY.out.2, by rw [htx]; exact partsFlat_len _ _ _ (by omega), by rw [hty]; exact partsFlat_len _ _ _ (by omega)⟩
          rw [htx, hty] at e
          have := text_inj _ _ _ _ _ hp32 hq32 hvx.1 hvy.1 (HW.out.2.2 x y HXY.out.1 HXY.out.2) e
          exact HXN.out this.2
        have hti : IntKind.i64.wrap ((i : Int) + 1) = (i : Int) + 1 := IntWalk.i64_in _ (by omega)
        clear htx hty hsx hsy hvx hvy hp32 hq32
        go_upto_region 11 with fail
        clear cx cy
        refine wp_region_held_drew (S := fun V => Hid (Step [] [] w V)) (by kernel_rfl) (Lib.hid ((HW.out.1.drewN _).drew)) (fun hHeld => ?_)
        refine wpAnyH_take (i := 0) (v := ?_) rfl (by kernel_rfl) (by kernel_rfl) (by kernel_rfl) (fun _ _ _ h => h) (Or.inl ⟨by rfl, ?_⟩) hHeld ?_
        rotate_left
        · intro w hSw
          have hSw1 := hSw
          clear hSw
          try dsimp only at hSw1
          go_simp
          try (with_reducible rfl)
        try simp only [Act.put, List.setIfInBounds_toArray, List.set_cons_zero, List.set_cons_succ, List.getElem_toArray, List.getElem_cons_zero, List.getElem_cons_succ]
        refine wpAnyH_take (i := 1) (v := ?_) rfl (by kernel_rfl) (by kernel_rfl) (by kernel_rfl) (fun _ _ _ h => h) (Or.inl ⟨by rfl, ?_⟩) hHeld ?_
        rotate_left
        · intro w hSw
          have hSw1 := hSw
          clear hSw
          try dsimp only at hSw1
          go_simp
          try (with_reducible rfl)
        try simp only [Act.put, List.setIfInBounds_toArray, List.set_cons_zero, List.set_cons_succ, List.getElem_toArray, List.getElem_cons_zero, List.getElem_cons_succ]
        refine wpAnyH_take (i := 2) (v := ?_) rfl (by kernel_rfl) (by kernel_rfl) (by kernel_rfl) (fun _ _ _ h => h) (Or.inl ⟨by rfl, ?_⟩) hHeld ?_
        rotate_left
        · intro w hSw
          have hSw1 := hSw
          clear hSw
          try dsimp only at hSw1
          go_simp
          try (with_reducible rfl)
        try simp only [Act.put, List.setIfInBounds_toArray, List.set_cons_zero, List.set_cons_succ, List.getElem_toArray, List.getElem_cons_zero, List.getElem_cons_succ]
        refine wpAnyH_take (i := 3) (v := ?_) rfl (by kernel_rfl) (by kernel_rfl) (by kernel_rfl) (fun _ _ _ h => h) (Or.inl ⟨by rfl, ?_⟩) hHeld ?_
        rotate_left
        · intro w hSw
          have hSw1 := hSw
          clear hSw
          try dsimp only at hSw1
          go_simp
          try (with_reducible rfl)
        try simp only [Act.put, List.setIfInBounds_toArray, List.set_cons_zero, List.set_cons_succ, List.getElem_toArray, List.getElem_cons_zero, List.getElem_cons_succ]
        refine wpAnyH_take (i := 4) (v := ?_) rfl (by kernel_rfl) (by kernel_rfl) (by kernel_rfl) (fun _ _ _ h => h) (Or.inl ⟨by rfl, ?_⟩) hHeld ?_
        rotate_left
        · intro w hSw
          have hSw1 := hSw
          clear hSw
          try dsimp only at hSw1
          go_simp
          try (with_reducible rfl)
        try simp only [Act.put, List.setIfInBounds_toArray, List.set_cons_zero, List.set_cons_succ, List.getElem_toArray, List.getElem_cons_zero, List.getElem_cons_succ]
        refine wpAnyH_take (i := 5) (v := ?_) rfl (by kernel_rfl) (by kernel_rfl) (by kernel_rfl) (fun _ _ _ h => h) (Or.inl ⟨by rfl, ?_⟩) hHeld ?_
        rotate_left
        · intro w hSw
          have hSw1 := hSw
          clear hSw
          try dsimp only at hSw1
          go_simp
          try (with_reducible rfl)
        try simp only [Act.put, List.setIfInBounds_toArray, List.set_cons_zero, List.set_cons_succ, List.getElem_toArray, List.getElem_cons_zero, List.getElem_cons_succ]
        refine wpAnyH_take (i := 6) (v := ?_) rfl (by kernel_rfl) (by kernel_rfl) (by kernel_rfl) (fun _ _ _ h => h) (Or.inl ⟨by rfl, ?_⟩) hHeld ?_
        rotate_left
        · intro w hSw
          have hSw1 := hSw
          clear hSw
          have rr := H0.out.1.1.step0 hSw1.out
          have cc := rd_line rr HXY.out.1
          have gg := World.block_lt_of_cell? _ _ cc.1
          simp only at gg
          clear rr
          go_simp
          try (with_reducible rfl)
        try simp only [Act.put, List.setIfInBounds_toArray, List.set_cons_zero, List.set_cons_succ, List.getElem_toArray, List.getElem_cons_zero, List.getElem_cons_succ]
        refine wpAnyH_take (i := 9) (v := ?_) rfl (by kernel_rfl) (by kernel_rfl) (by kernel_rfl) (fun _ _ _ h => h) (Or.inl ⟨by rfl, ?_⟩) hHeld ?_
        rotate_left
        · intro w hSw
          have hSw1 := hSw
          clear hSw
          try dsimp only at hSw1
          go_simp
          try (with_reducible rfl)
        try simp only [Act.put, List.setIfInBounds_toArray, List.set_cons_zero, List.set_cons_succ, List.getElem_toArray, List.getElem_cons_zero, List.getElem_cons_succ]
        refine wpAnyH_take (i := 10) (v := ?_) rfl (by kernel_rfl) (by kernel_rfl) (by kernel_rfl) (fun _ _ _ h => h) (Or.inl ⟨by rfl, ?_⟩) hHeld ?_
        rotate_left
        · intro w hSw
          have hSw1 := hSw
          clear hSw
          try dsimp only at hSw1
          go_simp
          try (with_reducible rfl)
        try simp only [Act.put, List.setIfInBounds_toArray, List.set_cons_zero, List.set_cons_succ, List.getElem_toArray, List.getElem_cons_zero, List.getElem_cons_succ]
        refine wpAnyH_take (i := 11) (v := ?_) rfl (by kernel_rfl) (by kernel_rfl) (by kernel_rfl) (fun _ _ _ h => h) (Or.inl ⟨by rfl, ?_⟩) hHeld ?_
        rotate_left
        · intro w hSw
          have hSw1 := hSw
          clear hSw
          try dsimp only at hSw1
          go_simp
          try (with_reducible rfl)
        try simp only [Act.put, List.setIfInBounds_toArray, List.set_cons_zero, List.set_cons_succ, List.getElem_toArray, List.getElem_cons_zero, List.getElem_cons_succ]
        refine wpAnyH_take (i := 12) (v := ?_) rfl (by kernel_rfl) (by kernel_rfl) (by kernel_rfl) (fun _ _ _ h => h) (Or.inl ⟨by rfl, ?_⟩) hHeld ?_
        rotate_left
        · intro w hSw
          have hSw1 := hSw
          clear hSw
          try dsimp only at hSw1
          go_simp
          try (with_reducible rfl)
        try simp only [Act.put, List.setIfInBounds_toArray, List.set_cons_zero, List.set_cons_succ, List.getElem_toArray, List.getElem_cons_zero, List.getElem_cons_succ]
        refine wpAnyH_take (i := 13) (v := ?_) rfl (by kernel_rfl) (by kernel_rfl) (by kernel_rfl) (fun _ _ _ h => h) (Or.inl ⟨by rfl, ?_⟩) hHeld ?_
        rotate_left
        · intro w hSw
          have hSw1 := hSw
          clear hSw
          try dsimp only at hSw1
          go_simp
          try (with_reducible rfl)
        try simp only [Act.put, List.setIfInBounds_toArray, List.set_cons_zero, List.set_cons_succ, List.getElem_toArray, List.getElem_cons_zero, List.getElem_cons_succ]
        refine wpAnyH_take (i := 14) (v := ?_) rfl (by kernel_rfl) (by kernel_rfl) (by kernel_rfl) (fun _ _ _ h => h) (Or.inl ⟨by rfl, ?_⟩) hHeld ?_
        rotate_left
        · intro w hSw
          have hSw1 := hSw
          clear hSw
          try dsimp only at hSw1
          go_simp
          try (with_reducible rfl)
        try simp only [Act.put, List.setIfInBounds_toArray, List.set_cons_zero, List.set_cons_succ, List.getElem_toArray, List.getElem_cons_zero, List.getElem_cons_succ]
        refine wpAnyH_take (i := 15) (v := ?_) rfl (by kernel_rfl) (by kernel_rfl) (by kernel_rfl) (fun _ _ _ h => h) (Or.inl ⟨by rfl, ?_⟩) hHeld ?_
        rotate_left
        · intro w hSw
          have hSw1 := hSw
          clear hSw
          have rr := H0.out.1.2.step0 hSw1.out
          have cc := rd_line rr HXY.out.2
          have gg := World.block_lt_of_cell? _ _ cc.1
          simp only at gg
          clear rr
          go_simp
          try (with_reducible rfl)
        try simp only [Act.put, List.setIfInBounds_toArray, List.set_cons_zero, List.set_cons_succ, List.getElem_toArray, List.getElem_cons_zero, List.getElem_cons_succ]
        refine wpAnyH_ready (rs := [7]) (by kernel_rfl) (by simp) ?_
        refine AllReadyH.cons rfl (fun K hK => ?_) AllReadyH.nil
        go_simp
        refine (auditParts_any ((i : Int) + 1) was x _ (by omega) ⟨HOK.out.1.index.2, HOK.out.1.client.2, HOK.out.1.seq.2, HOK.out.1.kind.2, HOK.out.1.err.2⟩ HOK.out.1.user HOK.out.1.digest).mono ?_; rintro e V1 ⟨g3, rfl, r1, k1⟩; have K1 := Lib.hid (And.intro r1 (hHeld.out.trans k1)); clear r1 k1
        go_wp2_with fail
        refine hK.out _ _ (Lib.hid K1.out.2) (fun hHeld2 => ?_)
        clear hK K hHeld
        try simp only [Act.put, List.setIfInBounds_toArray, List.set_cons_zero, List.set_cons_succ, List.getElem_toArray, List.getElem_cons_zero, List.getElem_cons_succ]
        refine wpAnyH_ready (rs := [8]) (by kernel_rfl) (by simp) ?_
        refine AllReadyH.cons rfl (fun K hK => ?_) AllReadyH.nil
        go_simp
        have hT : Calls Try.prog 32 #[.slice (some ⟨g3, 0, none⟩) 3 3] V1 fun e w' => e = .returned (Str (textLn ((i : Int) + 1) was x)) ∧ Step [] [] V1 w' := auditText_any (partsL ((i : Int) + 1) was x) (some ⟨g3, 0, none⟩) 3 V1 K1.out.1 (by simp [partsL]) (partsFlat_len _ _ _ (by have := HPQ.out; omega)); refine hT.mono ?_; rintro e X1 ⟨rfl, k1⟩; rw [show textLn ((i : Int) + 1) was x = tx from HT.out.1]; have L1 := Lib.hid (K1.out.2.trans k1); clear hT k1
        go_wp2_with fail
        refine hK.out _ _ (Lib.hid L1.out) (fun hHeld3 => ?_)
        clear hK K hHeld2
        try simp only [Act.put, List.setIfInBounds_toArray, List.set_cons_zero, List.set_cons_succ, List.getElem_toArray, List.getElem_cons_zero, List.getElem_cons_succ]
        refine wpAnyH_ready (rs := [16]) (by kernel_rfl) (by simp) ?_
        refine AllReadyH.cons rfl (fun K hK => ?_) AllReadyH.nil
        go_simp
        refine (auditParts_any ((i : Int) + 1) was y _ (by omega) ⟨HOK.out.2.index.2, HOK.out.2.client.2, HOK.out.2.seq.2, HOK.out.2.kind.2, HOK.out.2.err.2⟩ HOK.out.2.user HOK.out.2.digest).mono ?_; rintro e V2 ⟨g4, rfl, r2, k2⟩; have K2 := Lib.hid (And.intro r2 (hHeld3.out.trans k2)); clear r2 k2
        go_wp2_with fail
        refine hK.out _ _ (Lib.hid K2.out.2) (fun hHeld4 => ?_)
        clear hK K hHeld3
        try simp only [Act.put, List.setIfInBounds_toArray, List.set_cons_zero, List.set_cons_succ, List.getElem_toArray, List.getElem_cons_zero, List.getElem_cons_succ]
        refine wpAnyH_ready (rs := [17]) (by kernel_rfl) (by simp) ?_
        refine AllReadyH.cons rfl (fun K hK => ?_) AllReadyH.nil
        go_simp
        have hT : Calls Try.prog 32 #[.slice (some ⟨g4, 0, none⟩) 3 3] V2 fun e w' => e = .returned (Str (textLn ((i : Int) + 1) was y)) ∧ Step [] [] V2 w' := auditText_any (partsL ((i : Int) + 1) was y) (some ⟨g4, 0, none⟩) 3 V2 K2.out.1 (by simp [partsL]) (partsFlat_len _ _ _ (by have := HPQ.out; omega)); refine hT.mono ?_; rintro e X2 ⟨rfl, k2⟩; rw [show textLn ((i : Int) + 1) was y = ty from HT.out.2.1]; have L2 := Lib.hid (K2.out.2.trans k2); clear hT k2
        go_wp2_with fail
        refine hK.out _ _ (Lib.hid L2.out) (fun hHeld5 => ?_)
        clear hK K hHeld4
        try simp only [Act.put, List.setIfInBounds_toArray, List.set_cons_zero, List.set_cons_succ, List.getElem_toArray, List.getElem_cons_zero, List.getElem_cons_succ]
        refine wpAnyH_take (i := 18) (v := ?_) rfl (by kernel_rfl) (by kernel_rfl) (by kernel_rfl) (fun _ _ _ h => h) (Or.inl ⟨by rfl, ?_⟩) hHeld5 ?_
        rotate_left
        · intro w hSw
          have hSw1 := hSw
          clear hSw
          try dsimp only at hSw1
          go_simp
          try (with_reducible rfl)
        try simp only [Act.put, List.setIfInBounds_toArray, List.set_cons_zero, List.set_cons_succ, List.getElem_toArray, List.getElem_cons_zero, List.getElem_cons_succ]
        refine wpAnyH_take (i := 19) (v := ?_) rfl (by kernel_rfl) (by kernel_rfl) (by kernel_rfl) (fun _ _ _ h => h) (Or.inl ⟨by rfl, ?_⟩) hHeld5 ?_
        rotate_left
        · intro w hSw
          have hSw1 := hSw
          clear hSw
          try dsimp only at hSw1
          go_simp
          try (with_reducible rfl)
        try simp only [Act.put, List.setIfInBounds_toArray, List.set_cons_zero, List.set_cons_succ, List.getElem_toArray, List.getElem_cons_zero, List.getElem_cons_succ]
        refine wpAnyH_done (by kernel_rfl) ?_ _
        clear hti
        have hne : (tx == ty) = false := by simpa using HT.out.2.2.1
        go_wp2_with fail
        refine (sum_any tx _ HT.out.2.2.2.2.1).mono ?_
        rintro e Y1 ⟨rfl, k5⟩
        have L5 := Lib.hid (L2.out.trans k5)
        clear k5
        go_wp2_with fail
        refine (sum_any ty _ HT.out.2.2.2.2.2).mono ?_
        rintro e Y2 ⟨rfl, k6⟩
        rw [← HT.out.2.2.2.1]
        have L6 := Lib.hid (L5.out.trans k6)
        clear k6 hne
        go_wp2_with fail
        exact bodyPost_ret (results_tmp3 rfl _ _ _) rfl ⟨tx, ty, rfl, HT.out.2.2.1, HT.out.2.2.2.1, HT.out.2.2.2.2.1, HT.out.2.2.2.2.2, L6.out⟩
    · have hd0 : decide (0 < i) = true := decide_eq_true (by omega)
      obtain ⟨xp, hxp⟩ : ∃ xp, l[i - 1]? = some xp := ⟨_, List.getElem?_eq_getElem (by have := HL.out.1; omega)⟩
      obtain ⟨yp, hyp⟩ : ∃ yp, m[i - 1]? = some yp := ⟨_, List.getElem?_eq_getElem (by have := HL.out.2; omega)⟩
      have HXP := Lib.hid (And.intro hxp hyp)
      have hii : i - 1 + 1 = i := by omega
      have HP : Hid (prevH was l i = xp.hash ∧ prevH was m i = yp.hash) := by
        have h5 := prevH_succ (was := was) hxp
        have h6 := prevH_succ (was := was) hyp
        rw [hii] at h5 h6
        exact ⟨h5, h6⟩
      have cxp := (rd_line (H0.out.1.1.step0 HW.out.1) hxp).2.2.2.2.2.2.2
      have cyp := (rd_line (H0.out.1.2.step0 HW.out.1) hyp).2.2.2.2.2.2.2
      have q8 := Lib.hid hii
      have q9 : Hid ((i : Int) - 1 = ((i - 1 : Nat) : Int)) := by show _ = _; omega
      have q1 : IntKind.i64.wrap ((i : Int) - 1) = (i : Int) - 1 := IntWalk.i64_in _ (by omega)
      have q2 : (0 : Int) ≤ (i : Int) - 1 := by omega
      have q5 : (1 : Int) ≤ (i : Int) := by omega
      have q3 : (i : Int) - 1 < N := by omega
      have q4 : ((i : Int) - 1).toNat = i - 1 := by omega
      have q6 : i - 1 < N := by omega
      clear hxp hyp hii hi0
      go_upto_region 9 with fail
      go_quiet (fail)
      obtain ⟨U, hU⟩ : ∃ U, U = W.drewN nq := ⟨_, rfl⟩
      rw [← hU]
      have HWU : Hid (Step [] [] w U ∧ l.drop (i + 1) = m.drop (i + 1) ∧ ∀ x y, l[i]? = some x → m[i]? = some y → x.hash = y.hash) := ⟨by rw [hU]; exact HW.out.1.drewN _, HW.out.2⟩
      clear hU cx cy gw gw2 HW
      have HW := HWU
      clear HWU
      have cx := rd_line (H0.out.1.1.step0 HW.out.1) HXY.out.1
      have cy := rd_line (H0.out.1.2.step0 HW.out.1) HXY.out.2
      have gw : g < U.heap.size := by have := World.block_lt_of_cell? _ _ cx.1; simpa using this
      have gw2 : g2 < U.heap.size := by have := World.block_lt_of_cell? _ _ cy.1; simpa using this
      clear q2 q3 q4 q6 cxp cyp
      go_upto_region 10 with fail
      have hvx := HV.out.1.at_ i x HXY.out.1
      have hvy := HV.out.2.1.at_ i y HXY.out.2
      have hp32 := prevH_len HV.out.1 HV.out.2.2.1 i (by have := HL.out.1; omega)
      have hq32 := prevH_len HV.out.2.1 HV.out.2.2.1 i (by have := HL.out.2; omega)
      rw [HP.out.1] at hvx hp32
      rw [HP.out.2] at hvy hq32
      have HVV := Lib.hid (And.intro hvx (And.intro hvy (And.intro hp32 hq32)))
      clear hvx hvy hp32 hq32
      by_cases hxy : x = y
      · have hq : ∀ V : World, (binOp .eql 32 (lnV x) (lnV y)).run Try.prog V = .ok (.bool true) V := fun V => by rw [eql_ln]; simp [hxy]
        by_cases hpq : xp.hash = yp.hash
        · have hpb : (xp.hash == yp.hash) = true := by simpa using hpq
          have HN : Hid (l.drop i = m.drop i) := drop_step HXY.out.1 (by rw [HXY.out.2, hxy]) HW.out.2.1
          have HPQ2 := Lib.hid hpq
          clear hpq hxy
          go_quiet (fail)
          clear hq hpb cx cy
          go_wp2_with fail
          clear q1
          go_roundw
          case rel => exact ⟨i - 1, by rw [q9.out], by omega, HW.out.1.drewN _, by rw [q8.out]; exact HN.out, fun x2 y2 h3 h4 => by rw [HXP.out.1] at h3; rw [HXP.out.2] at h4; injection h3 with h3; injection h4 with h4; rw [← h3, ← h4]; exact HPQ2.out⟩
          case measure => simp [intOf]; omega
        · have hpb : (xp.hash == yp.hash) = false := by simpa using hpq
          have HXN := Lib.hid hpq
          clear hpq hxy
          go_quiet (fail)
          clear hq hpb
          go_upto_region 11 with fail
          obtain ⟨hvx, hvy, hp32, hq32⟩ := HVV.out
          obtain ⟨tx, htx⟩ : ∃ tx, tx = textLn ((i : Int) + 1) xp.hash x := ⟨_, rfl⟩
          obtain ⟨ty, hty⟩ : ∃ ty, ty = textLn ((i : Int) + 1) yp.hash y := ⟨_, rfl⟩
          have HPQ : Hid (xp.hash.length = 32 ∧ yp.hash.length = 32) := ⟨hp32, hq32⟩
          have hsx : x.hash = sha tx := by rw [htx]; exact hvx.2
          have hsy : y.hash = sha ty := by rw [hty]; exact hvy.2
          have HT : Hid (textLn ((i : Int) + 1) xp.hash x = tx ∧ textLn ((i : Int) + 1) yp.hash y = ty ∧ tx ≠ ty ∧ sha tx = sha ty ∧ tx.length ≤ 1099511627776 ∧ ty.length ≤ 1099511627776) := by
            refine ⟨htx.symm, hty.symm, fun e => ?_, by rw [← hsx, ← hsy]; exact HW.out.2.2 x y HXY.out.1 HXY.out.2, by rw [htx]; exact partsFlat_len _ _ _ (by omega), by rw [hty]; exact partsFlat_len _ _ _ (by omega)⟩
            rw [htx, hty] at e
            have := text_inj _ _ _ _ _ hp32 hq32 hvx.1 hvy.1 (HW.out.2.2 x y HXY.out.1 HXY.out.2) e
            exact HXN.out this.1
          have hti : IntKind.i64.wrap ((i : Int) + 1) = (i : Int) + 1 := IntWalk.i64_in _ (by omega)
          clear htx hty hsx hsy hvx hvy hp32 hq32
          go_upto_region 11 with fail
          clear cx cy
          refine wp_region_held_drew (S := fun V => Hid (Step [] [] w V)) (by kernel_rfl) (Lib.hid ((HW.out.1.drewN _).drew)) (fun hHeld => ?_)
          refine wpAnyH_take (i := 0) (v := ?_) rfl (by kernel_rfl) (by kernel_rfl) (by kernel_rfl) (fun _ _ _ h => h) (Or.inl ⟨by rfl, ?_⟩) hHeld ?_
          rotate_left
          · intro w hSw
            have hSw1 := hSw
            clear hSw
            try dsimp only at hSw1
            go_simp
            try (with_reducible rfl)
          try simp only [Act.put, List.setIfInBounds_toArray, List.set_cons_zero, List.set_cons_succ, List.getElem_toArray, List.getElem_cons_zero, List.getElem_cons_succ]
          refine wpAnyH_take (i := 1) (v := ?_) rfl (by kernel_rfl) (by kernel_rfl) (by kernel_rfl) (fun _ _ _ h => h) (Or.inl ⟨by rfl, ?_⟩) hHeld ?_
          rotate_left
          · intro w hSw
            have hSw1 := hSw
            clear hSw
            try dsimp only at hSw1
            go_simp
            try (with_reducible rfl)
          try simp only [Act.put, List.setIfInBounds_toArray, List.set_cons_zero, List.set_cons_succ, List.getElem_toArray, List.getElem_cons_zero, List.getElem_cons_succ]
          refine wpAnyH_take (i := 2) (v := ?_) rfl (by kernel_rfl) (by kernel_rfl) (by kernel_rfl) (fun _ _ _ h => h) (Or.inl ⟨by rfl, ?_⟩) hHeld ?_
          rotate_left
          · intro w hSw
            have hSw1 := hSw
            clear hSw
            try dsimp only at hSw1
            go_simp
            try (with_reducible rfl)
          try simp only [Act.put, List.setIfInBounds_toArray, List.set_cons_zero, List.set_cons_succ, List.getElem_toArray, List.getElem_cons_zero, List.getElem_cons_succ]
          refine wpAnyH_take (i := 3) (v := ?_) rfl (by kernel_rfl) (by kernel_rfl) (by kernel_rfl) (fun _ _ _ h => h) (Or.inl ⟨by rfl, ?_⟩) hHeld ?_
          rotate_left
          · intro w hSw
            have hSw1 := hSw
            clear hSw
            try dsimp only at hSw1
            go_simp
            try (with_reducible rfl)
          try simp only [Act.put, List.setIfInBounds_toArray, List.set_cons_zero, List.set_cons_succ, List.getElem_toArray, List.getElem_cons_zero, List.getElem_cons_succ]
          refine wpAnyH_take (i := 4) (v := ?_) rfl (by kernel_rfl) (by kernel_rfl) (by kernel_rfl) (fun _ _ _ h => h) (Or.inl ⟨by rfl, ?_⟩) hHeld ?_
          rotate_left
          · intro w hSw
            have hSw1 := hSw
            clear hSw
            try dsimp only at hSw1
            go_simp
            try (with_reducible rfl)
          try simp only [Act.put, List.setIfInBounds_toArray, List.set_cons_zero, List.set_cons_succ, List.getElem_toArray, List.getElem_cons_zero, List.getElem_cons_succ]
          refine wpAnyH_take (i := 5) (v := ?_) rfl (by kernel_rfl) (by kernel_rfl) (by kernel_rfl) (fun _ _ _ h => h) (Or.inl ⟨by rfl, ?_⟩) hHeld ?_
          rotate_left
          · intro w hSw
            have hSw1 := hSw
            clear hSw
            try dsimp only at hSw1
            go_simp
            try (with_reducible rfl)
          try simp only [Act.put, List.setIfInBounds_toArray, List.set_cons_zero, List.set_cons_succ, List.getElem_toArray, List.getElem_cons_zero, List.getElem_cons_succ]
          refine wpAnyH_take (i := 6) (v := ?_) rfl (by kernel_rfl) (by kernel_rfl) (by kernel_rfl) (fun _ _ _ h => h) (Or.inl ⟨by rfl, ?_⟩) hHeld ?_
          rotate_left
          · intro w hSw
            have hSw1 := hSw
            clear hSw
            have rr := H0.out.1.1.step0 hSw1.out
            have cc := rd_line rr HXY.out.1
            have gg := World.block_lt_of_cell? _ _ cc.1
            simp only at gg
            clear rr
            go_simp
            try (with_reducible rfl)
          try simp only [Act.put, List.setIfInBounds_toArray, List.set_cons_zero, List.set_cons_succ, List.getElem_toArray, List.getElem_cons_zero, List.getElem_cons_succ]
          refine wpAnyH_take (i := 9) (v := ?_) rfl (by kernel_rfl) (by kernel_rfl) (by kernel_rfl) (fun _ _ _ h => h) (Or.inl ⟨by rfl, ?_⟩) hHeld ?_
          rotate_left
          · intro w hSw
            have hSw1 := hSw
            clear hSw
            try dsimp only at hSw1
            go_simp
            try (with_reducible rfl)
          try simp only [Act.put, List.setIfInBounds_toArray, List.set_cons_zero, List.set_cons_succ, List.getElem_toArray, List.getElem_cons_zero, List.getElem_cons_succ]
          refine wpAnyH_take (i := 10) (v := ?_) rfl (by kernel_rfl) (by kernel_rfl) (by kernel_rfl) (fun _ _ _ h => h) (Or.inl ⟨by rfl, ?_⟩) hHeld ?_
          rotate_left
          · intro w hSw
            have hSw1 := hSw
            clear hSw
            try dsimp only at hSw1
            go_simp
            try (with_reducible rfl)
          try simp only [Act.put, List.setIfInBounds_toArray, List.set_cons_zero, List.set_cons_succ, List.getElem_toArray, List.getElem_cons_zero, List.getElem_cons_succ]
          refine wpAnyH_take (i := 11) (v := ?_) rfl (by kernel_rfl) (by kernel_rfl) (by kernel_rfl) (fun _ _ _ h => h) (Or.inl ⟨by rfl, ?_⟩) hHeld ?_
          rotate_left
          · intro w hSw
            have hSw1 := hSw
            clear hSw
            try dsimp only at hSw1
            go_simp
            try (with_reducible rfl)
          try simp only [Act.put, List.setIfInBounds_toArray, List.set_cons_zero, List.set_cons_succ, List.getElem_toArray, List.getElem_cons_zero, List.getElem_cons_succ]
          refine wpAnyH_take (i := 12) (v := ?_) rfl (by kernel_rfl) (by kernel_rfl) (by kernel_rfl) (fun _ _ _ h => h) (Or.inl ⟨by rfl, ?_⟩) hHeld ?_
          rotate_left
          · intro w hSw
            have hSw1 := hSw
            clear hSw
            try dsimp only at hSw1
            go_simp
            try (with_reducible rfl)
          try simp only [Act.put, List.setIfInBounds_toArray, List.set_cons_zero, List.set_cons_succ, List.getElem_toArray, List.getElem_cons_zero, List.getElem_cons_succ]
          refine wpAnyH_take (i := 13) (v := ?_) rfl (by kernel_rfl) (by kernel_rfl) (by kernel_rfl) (fun _ _ _ h => h) (Or.inl ⟨by rfl, ?_⟩) hHeld ?_
          rotate_left
          · intro w hSw
            have hSw1 := hSw
            clear hSw
            try dsimp only at hSw1
            go_simp
            try (with_reducible rfl)
          try simp only [Act.put, List.setIfInBounds_toArray, List.set_cons_zero, List.set_cons_succ, List.getElem_toArray, List.getElem_cons_zero, List.getElem_cons_succ]
          refine wpAnyH_take (i := 14) (v := ?_) rfl (by kernel_rfl) (by kernel_rfl) (by kernel_rfl) (fun _ _ _ h => h) (Or.inl ⟨by rfl, ?_⟩) hHeld ?_
          rotate_left
          · intro w hSw
            have hSw1 := hSw
            clear hSw
            try dsimp only at hSw1
            go_simp
            try (with_reducible rfl)
          try simp only [Act.put, List.setIfInBounds_toArray, List.set_cons_zero, List.set_cons_succ, List.getElem_toArray, List.getElem_cons_zero, List.getElem_cons_succ]
          refine wpAnyH_take (i := 15) (v := ?_) rfl (by kernel_rfl) (by kernel_rfl) (by kernel_rfl) (fun _ _ _ h => h) (Or.inl ⟨by rfl, ?_⟩) hHeld ?_
          rotate_left
          · intro w hSw
            have hSw1 := hSw
            clear hSw
            have rr := H0.out.1.2.step0 hSw1.out
            have cc := rd_line rr HXY.out.2
            have gg := World.block_lt_of_cell? _ _ cc.1
            simp only at gg
            clear rr
            go_simp
            try (with_reducible rfl)
          try simp only [Act.put, List.setIfInBounds_toArray, List.set_cons_zero, List.set_cons_succ, List.getElem_toArray, List.getElem_cons_zero, List.getElem_cons_succ]
          refine wpAnyH_ready (rs := [7]) (by kernel_rfl) (by simp) ?_
          refine AllReadyH.cons rfl (fun K hK => ?_) AllReadyH.nil
          go_simp
          refine (auditParts_any ((i : Int) + 1) xp.hash x _ (by omega) ⟨HOK.out.1.index.2, HOK.out.1.client.2, HOK.out.1.seq.2, HOK.out.1.kind.2, HOK.out.1.err.2⟩ HOK.out.1.user HOK.out.1.digest).mono ?_; rintro e V1 ⟨g3, rfl, r1, k1⟩; have K1 := Lib.hid (And.intro r1 (hHeld.out.trans k1)); clear r1 k1
          go_wp2_with fail
          refine hK.out _ _ (Lib.hid K1.out.2) (fun hHeld2 => ?_)
          clear hK K hHeld
          try simp only [Act.put, List.setIfInBounds_toArray, List.set_cons_zero, List.set_cons_succ, List.getElem_toArray, List.getElem_cons_zero, List.getElem_cons_succ]
          refine wpAnyH_ready (rs := [8]) (by kernel_rfl) (by simp) ?_
          refine AllReadyH.cons rfl (fun K hK => ?_) AllReadyH.nil
          go_simp
          have hT : Calls Try.prog 32 #[.slice (some ⟨g3, 0, none⟩) 3 3] V1 fun e w' => e = .returned (Str (textLn ((i : Int) + 1) xp.hash x)) ∧ Step [] [] V1 w' := auditText_any (partsL ((i : Int) + 1) xp.hash x) (some ⟨g3, 0, none⟩) 3 V1 K1.out.1 (by simp [partsL]) (partsFlat_len _ _ _ (by have := HPQ.out; omega)); refine hT.mono ?_; rintro e X1 ⟨rfl, k1⟩; rw [show textLn ((i : Int) + 1) xp.hash x = tx from HT.out.1]; have L1 := Lib.hid (K1.out.2.trans k1); clear hT k1
          go_wp2_with fail
          refine hK.out _ _ (Lib.hid L1.out) (fun hHeld3 => ?_)
          clear hK K hHeld2
          try simp only [Act.put, List.setIfInBounds_toArray, List.set_cons_zero, List.set_cons_succ, List.getElem_toArray, List.getElem_cons_zero, List.getElem_cons_succ]
          refine wpAnyH_ready (rs := [16]) (by kernel_rfl) (by simp) ?_
          refine AllReadyH.cons rfl (fun K hK => ?_) AllReadyH.nil
          go_simp
          refine (auditParts_any ((i : Int) + 1) yp.hash y _ (by omega) ⟨HOK.out.2.index.2, HOK.out.2.client.2, HOK.out.2.seq.2, HOK.out.2.kind.2, HOK.out.2.err.2⟩ HOK.out.2.user HOK.out.2.digest).mono ?_; rintro e V2 ⟨g4, rfl, r2, k2⟩; have K2 := Lib.hid (And.intro r2 (hHeld3.out.trans k2)); clear r2 k2
          go_wp2_with fail
          refine hK.out _ _ (Lib.hid K2.out.2) (fun hHeld4 => ?_)
          clear hK K hHeld3
          try simp only [Act.put, List.setIfInBounds_toArray, List.set_cons_zero, List.set_cons_succ, List.getElem_toArray, List.getElem_cons_zero, List.getElem_cons_succ]
          refine wpAnyH_ready (rs := [17]) (by kernel_rfl) (by simp) ?_
          refine AllReadyH.cons rfl (fun K hK => ?_) AllReadyH.nil
          go_simp
          have hT : Calls Try.prog 32 #[.slice (some ⟨g4, 0, none⟩) 3 3] V2 fun e w' => e = .returned (Str (textLn ((i : Int) + 1) yp.hash y)) ∧ Step [] [] V2 w' := auditText_any (partsL ((i : Int) + 1) yp.hash y) (some ⟨g4, 0, none⟩) 3 V2 K2.out.1 (by simp [partsL]) (partsFlat_len _ _ _ (by have := HPQ.out; omega)); refine hT.mono ?_; rintro e X2 ⟨rfl, k2⟩; rw [show textLn ((i : Int) + 1) yp.hash y = ty from HT.out.2.1]; have L2 := Lib.hid (K2.out.2.trans k2); clear hT k2
          go_wp2_with fail
          refine hK.out _ _ (Lib.hid L2.out) (fun hHeld5 => ?_)
          clear hK K hHeld4
          try simp only [Act.put, List.setIfInBounds_toArray, List.set_cons_zero, List.set_cons_succ, List.getElem_toArray, List.getElem_cons_zero, List.getElem_cons_succ]
          refine wpAnyH_take (i := 18) (v := ?_) rfl (by kernel_rfl) (by kernel_rfl) (by kernel_rfl) (fun _ _ _ h => h) (Or.inl ⟨by rfl, ?_⟩) hHeld5 ?_
          rotate_left
          · intro w hSw
            have hSw1 := hSw
            clear hSw
            try dsimp only at hSw1
            go_simp
            try (with_reducible rfl)
          try simp only [Act.put, List.setIfInBounds_toArray, List.set_cons_zero, List.set_cons_succ, List.getElem_toArray, List.getElem_cons_zero, List.getElem_cons_succ]
          refine wpAnyH_take (i := 19) (v := ?_) rfl (by kernel_rfl) (by kernel_rfl) (by kernel_rfl) (fun _ _ _ h => h) (Or.inl ⟨by rfl, ?_⟩) hHeld5 ?_
          rotate_left
          · intro w hSw
            have hSw1 := hSw
            clear hSw
            try dsimp only at hSw1
            go_simp
            try (with_reducible rfl)
          try simp only [Act.put, List.setIfInBounds_toArray, List.set_cons_zero, List.set_cons_succ, List.getElem_toArray, List.getElem_cons_zero, List.getElem_cons_succ]
          refine wpAnyH_done (by kernel_rfl) ?_ _
          clear hti
          have hne : (tx == ty) = false := by simpa using HT.out.2.2.1
          go_wp2_with fail
          refine (sum_any tx _ HT.out.2.2.2.2.1).mono ?_
          rintro e Y1 ⟨rfl, k5⟩
          have L5 := Lib.hid (L2.out.trans k5)
          clear k5
          go_wp2_with fail
          refine (sum_any ty _ HT.out.2.2.2.2.2).mono ?_
          rintro e Y2 ⟨rfl, k6⟩
          rw [← HT.out.2.2.2.1]
          have L6 := Lib.hid (L5.out.trans k6)
          clear k6 hne
          go_wp2_with fail
          exact bodyPost_ret (results_tmp3 rfl _ _ _) rfl ⟨tx, ty, rfl, HT.out.2.2.1, HT.out.2.2.2.1, HT.out.2.2.2.2.1, HT.out.2.2.2.2.2, L6.out⟩
      · have hq : ∀ V : World, (binOp .eql 32 (lnV x) (lnV y)).run Try.prog V = .ok (.bool false) V := fun V => by rw [eql_ln]; simp [hxy]
        have HXN := Lib.hid hxy
        clear hxy
        go_quiet (fail)
        clear hq
        go_upto_region 11 with fail
        obtain ⟨hvx, hvy, hp32, hq32⟩ := HVV.out
        obtain ⟨tx, htx⟩ : ∃ tx, tx = textLn ((i : Int) + 1) xp.hash x := ⟨_, rfl⟩
        obtain ⟨ty, hty⟩ : ∃ ty, ty = textLn ((i : Int) + 1) yp.hash y := ⟨_, rfl⟩
        have HPQ : Hid (xp.hash.length = 32 ∧ yp.hash.length = 32) := ⟨hp32, hq32⟩
        have hsx : x.hash = sha tx := by rw [htx]; exact hvx.2
        have hsy : y.hash = sha ty := by rw [hty]; exact hvy.2
        have HT : Hid (textLn ((i : Int) + 1) xp.hash x = tx ∧ textLn ((i : Int) + 1) yp.hash y = ty ∧ tx ≠ ty ∧ sha tx = sha ty ∧ tx.length ≤ 1099511627776 ∧ ty.length ≤ 1099511627776) := by
          refine ⟨htx.symm, hty.symm, fun e => ?_, by rw [← hsx, ← hsy]; exact HW.out.2.2 x y HXY.out.1 HXY.out.2, by rw [htx]; exact partsFlat_len _ _ _ (by omega), by rw [hty]; exact partsFlat_len _ _ _ (by omega)⟩
          rw [htx, hty] at e
          have := text_inj _ _ _ _ _ hp32 hq32 hvx.1 hvy.1 (HW.out.2.2 x y HXY.out.1 HXY.out.2) e
          exact HXN.out this.2
        have hti : IntKind.i64.wrap ((i : Int) + 1) = (i : Int) + 1 := IntWalk.i64_in _ (by omega)
        clear htx hty hsx hsy hvx hvy hp32 hq32
        go_upto_region 11 with fail
        clear cx cy
        refine wp_region_held_drew (S := fun V => Hid (Step [] [] w V)) (by kernel_rfl) (Lib.hid ((HW.out.1.drewN _).drew)) (fun hHeld => ?_)
        refine wpAnyH_take (i := 0) (v := ?_) rfl (by kernel_rfl) (by kernel_rfl) (by kernel_rfl) (fun _ _ _ h => h) (Or.inl ⟨by rfl, ?_⟩) hHeld ?_
        rotate_left
        · intro w hSw
          have hSw1 := hSw
          clear hSw
          try dsimp only at hSw1
          go_simp
          try (with_reducible rfl)
        try simp only [Act.put, List.setIfInBounds_toArray, List.set_cons_zero, List.set_cons_succ, List.getElem_toArray, List.getElem_cons_zero, List.getElem_cons_succ]
        refine wpAnyH_take (i := 1) (v := ?_) rfl (by kernel_rfl) (by kernel_rfl) (by kernel_rfl) (fun _ _ _ h => h) (Or.inl ⟨by rfl, ?_⟩) hHeld ?_
        rotate_left
        · intro w hSw
          have hSw1 := hSw
          clear hSw
          try dsimp only at hSw1
          go_simp
          try (with_reducible rfl)
        try simp only [Act.put, List.setIfInBounds_toArray, List.set_cons_zero, List.set_cons_succ, List.getElem_toArray, List.getElem_cons_zero, List.getElem_cons_succ]
        refine wpAnyH_take (i := 2) (v := ?_) rfl (by kernel_rfl) (by kernel_rfl) (by kernel_rfl) (fun _ _ _ h => h) (Or.inl ⟨by rfl, ?_⟩) hHeld ?_
        rotate_left
        · intro w hSw
          have hSw1 := hSw
          clear hSw
          try dsimp only at hSw1
          go_simp
          try (with_reducible rfl)
        try simp only [Act.put, List.setIfInBounds_toArray, List.set_cons_zero, List.set_cons_succ, List.getElem_toArray, List.getElem_cons_zero, List.getElem_cons_succ]
        refine wpAnyH_take (i := 3) (v := ?_) rfl (by kernel_rfl) (by kernel_rfl) (by kernel_rfl) (fun _ _ _ h => h) (Or.inl ⟨by rfl, ?_⟩) hHeld ?_
        rotate_left
        · intro w hSw
          have hSw1 := hSw
          clear hSw
          try dsimp only at hSw1
          go_simp
          try (with_reducible rfl)
        try simp only [Act.put, List.setIfInBounds_toArray, List.set_cons_zero, List.set_cons_succ, List.getElem_toArray, List.getElem_cons_zero, List.getElem_cons_succ]
        refine wpAnyH_take (i := 4) (v := ?_) rfl (by kernel_rfl) (by kernel_rfl) (by kernel_rfl) (fun _ _ _ h => h) (Or.inl ⟨by rfl, ?_⟩) hHeld ?_
        rotate_left
        · intro w hSw
          have hSw1 := hSw
          clear hSw
          try dsimp only at hSw1
          go_simp
          try (with_reducible rfl)
        try simp only [Act.put, List.setIfInBounds_toArray, List.set_cons_zero, List.set_cons_succ, List.getElem_toArray, List.getElem_cons_zero, List.getElem_cons_succ]
        refine wpAnyH_take (i := 5) (v := ?_) rfl (by kernel_rfl) (by kernel_rfl) (by kernel_rfl) (fun _ _ _ h => h) (Or.inl ⟨by rfl, ?_⟩) hHeld ?_
        rotate_left
        · intro w hSw
          have hSw1 := hSw
          clear hSw
          try dsimp only at hSw1
          go_simp
          try (with_reducible rfl)
        try simp only [Act.put, List.setIfInBounds_toArray, List.set_cons_zero, List.set_cons_succ, List.getElem_toArray, List.getElem_cons_zero, List.getElem_cons_succ]
        refine wpAnyH_take (i := 6) (v := ?_) rfl (by kernel_rfl) (by kernel_rfl) (by kernel_rfl) (fun _ _ _ h => h) (Or.inl ⟨by rfl, ?_⟩) hHeld ?_
        rotate_left
        · intro w hSw
          have hSw1 := hSw
          clear hSw
          have rr := H0.out.1.1.step0 hSw1.out
          have cc := rd_line rr HXY.out.1
          have gg := World.block_lt_of_cell? _ _ cc.1
          simp only at gg
          clear rr
          go_simp
          try (with_reducible rfl)
        try simp only [Act.put, List.setIfInBounds_toArray, List.set_cons_zero, List.set_cons_succ, List.getElem_toArray, List.getElem_cons_zero, List.getElem_cons_succ]
        refine wpAnyH_take (i := 9) (v := ?_) rfl (by kernel_rfl) (by kernel_rfl) (by kernel_rfl) (fun _ _ _ h => h) (Or.inl ⟨by rfl, ?_⟩) hHeld ?_
        rotate_left
        · intro w hSw
          have hSw1 := hSw
          clear hSw
          try dsimp only at hSw1
          go_simp
          try (with_reducible rfl)
        try simp only [Act.put, List.setIfInBounds_toArray, List.set_cons_zero, List.set_cons_succ, List.getElem_toArray, List.getElem_cons_zero, List.getElem_cons_succ]
        refine wpAnyH_take (i := 10) (v := ?_) rfl (by kernel_rfl) (by kernel_rfl) (by kernel_rfl) (fun _ _ _ h => h) (Or.inl ⟨by rfl, ?_⟩) hHeld ?_
        rotate_left
        · intro w hSw
          have hSw1 := hSw
          clear hSw
          try dsimp only at hSw1
          go_simp
          try (with_reducible rfl)
        try simp only [Act.put, List.setIfInBounds_toArray, List.set_cons_zero, List.set_cons_succ, List.getElem_toArray, List.getElem_cons_zero, List.getElem_cons_succ]
        refine wpAnyH_take (i := 11) (v := ?_) rfl (by kernel_rfl) (by kernel_rfl) (by kernel_rfl) (fun _ _ _ h => h) (Or.inl ⟨by rfl, ?_⟩) hHeld ?_
        rotate_left
        · intro w hSw
          have hSw1 := hSw
          clear hSw
          try dsimp only at hSw1
          go_simp
          try (with_reducible rfl)
        try simp only [Act.put, List.setIfInBounds_toArray, List.set_cons_zero, List.set_cons_succ, List.getElem_toArray, List.getElem_cons_zero, List.getElem_cons_succ]
        refine wpAnyH_take (i := 12) (v := ?_) rfl (by kernel_rfl) (by kernel_rfl) (by kernel_rfl) (fun _ _ _ h => h) (Or.inl ⟨by rfl, ?_⟩) hHeld ?_
        rotate_left
        · intro w hSw
          have hSw1 := hSw
          clear hSw
          try dsimp only at hSw1
          go_simp
          try (with_reducible rfl)
        try simp only [Act.put, List.setIfInBounds_toArray, List.set_cons_zero, List.set_cons_succ, List.getElem_toArray, List.getElem_cons_zero, List.getElem_cons_succ]
        refine wpAnyH_take (i := 13) (v := ?_) rfl (by kernel_rfl) (by kernel_rfl) (by kernel_rfl) (fun _ _ _ h => h) (Or.inl ⟨by rfl, ?_⟩) hHeld ?_
        rotate_left
        · intro w hSw
          have hSw1 := hSw
          clear hSw
          try dsimp only at hSw1
          go_simp
          try (with_reducible rfl)
        try simp only [Act.put, List.setIfInBounds_toArray, List.set_cons_zero, List.set_cons_succ, List.getElem_toArray, List.getElem_cons_zero, List.getElem_cons_succ]
        refine wpAnyH_take (i := 14) (v := ?_) rfl (by kernel_rfl) (by kernel_rfl) (by kernel_rfl) (fun _ _ _ h => h) (Or.inl ⟨by rfl, ?_⟩) hHeld ?_
        rotate_left
        · intro w hSw
          have hSw1 := hSw
          clear hSw
          try dsimp only at hSw1
          go_simp
          try (with_reducible rfl)
        try simp only [Act.put, List.setIfInBounds_toArray, List.set_cons_zero, List.set_cons_succ, List.getElem_toArray, List.getElem_cons_zero, List.getElem_cons_succ]
        refine wpAnyH_take (i := 15) (v := ?_) rfl (by kernel_rfl) (by kernel_rfl) (by kernel_rfl) (fun _ _ _ h => h) (Or.inl ⟨by rfl, ?_⟩) hHeld ?_
        rotate_left
        · intro w hSw
          have hSw1 := hSw
          clear hSw
          have rr := H0.out.1.2.step0 hSw1.out
          have cc := rd_line rr HXY.out.2
          have gg := World.block_lt_of_cell? _ _ cc.1
          simp only at gg
          clear rr
          go_simp
          try (with_reducible rfl)
        try simp only [Act.put, List.setIfInBounds_toArray, List.set_cons_zero, List.set_cons_succ, List.getElem_toArray, List.getElem_cons_zero, List.getElem_cons_succ]
        refine wpAnyH_ready (rs := [7]) (by kernel_rfl) (by simp) ?_
        refine AllReadyH.cons rfl (fun K hK => ?_) AllReadyH.nil
        go_simp
        refine (auditParts_any ((i : Int) + 1) xp.hash x _ (by omega) ⟨HOK.out.1.index.2, HOK.out.1.client.2, HOK.out.1.seq.2, HOK.out.1.kind.2, HOK.out.1.err.2⟩ HOK.out.1.user HOK.out.1.digest).mono ?_; rintro e V1 ⟨g3, rfl, r1, k1⟩; have K1 := Lib.hid (And.intro r1 (hHeld.out.trans k1)); clear r1 k1
        go_wp2_with fail
        refine hK.out _ _ (Lib.hid K1.out.2) (fun hHeld2 => ?_)
        clear hK K hHeld
        try simp only [Act.put, List.setIfInBounds_toArray, List.set_cons_zero, List.set_cons_succ, List.getElem_toArray, List.getElem_cons_zero, List.getElem_cons_succ]
        refine wpAnyH_ready (rs := [8]) (by kernel_rfl) (by simp) ?_
        refine AllReadyH.cons rfl (fun K hK => ?_) AllReadyH.nil
        go_simp
        have hT : Calls Try.prog 32 #[.slice (some ⟨g3, 0, none⟩) 3 3] V1 fun e w' => e = .returned (Str (textLn ((i : Int) + 1) xp.hash x)) ∧ Step [] [] V1 w' := auditText_any (partsL ((i : Int) + 1) xp.hash x) (some ⟨g3, 0, none⟩) 3 V1 K1.out.1 (by simp [partsL]) (partsFlat_len _ _ _ (by have := HPQ.out; omega)); refine hT.mono ?_; rintro e X1 ⟨rfl, k1⟩; rw [show textLn ((i : Int) + 1) xp.hash x = tx from HT.out.1]; have L1 := Lib.hid (K1.out.2.trans k1); clear hT k1
        go_wp2_with fail
        refine hK.out _ _ (Lib.hid L1.out) (fun hHeld3 => ?_)
        clear hK K hHeld2
        try simp only [Act.put, List.setIfInBounds_toArray, List.set_cons_zero, List.set_cons_succ, List.getElem_toArray, List.getElem_cons_zero, List.getElem_cons_succ]
        refine wpAnyH_ready (rs := [16]) (by kernel_rfl) (by simp) ?_
        refine AllReadyH.cons rfl (fun K hK => ?_) AllReadyH.nil
        go_simp
        refine (auditParts_any ((i : Int) + 1) yp.hash y _ (by omega) ⟨HOK.out.2.index.2, HOK.out.2.client.2, HOK.out.2.seq.2, HOK.out.2.kind.2, HOK.out.2.err.2⟩ HOK.out.2.user HOK.out.2.digest).mono ?_; rintro e V2 ⟨g4, rfl, r2, k2⟩; have K2 := Lib.hid (And.intro r2 (hHeld3.out.trans k2)); clear r2 k2
        go_wp2_with fail
        refine hK.out _ _ (Lib.hid K2.out.2) (fun hHeld4 => ?_)
        clear hK K hHeld3
        try simp only [Act.put, List.setIfInBounds_toArray, List.set_cons_zero, List.set_cons_succ, List.getElem_toArray, List.getElem_cons_zero, List.getElem_cons_succ]
        refine wpAnyH_ready (rs := [17]) (by kernel_rfl) (by simp) ?_
        refine AllReadyH.cons rfl (fun K hK => ?_) AllReadyH.nil
        go_simp
        have hT : Calls Try.prog 32 #[.slice (some ⟨g4, 0, none⟩) 3 3] V2 fun e w' => e = .returned (Str (textLn ((i : Int) + 1) yp.hash y)) ∧ Step [] [] V2 w' := auditText_any (partsL ((i : Int) + 1) yp.hash y) (some ⟨g4, 0, none⟩) 3 V2 K2.out.1 (by simp [partsL]) (partsFlat_len _ _ _ (by have := HPQ.out; omega)); refine hT.mono ?_; rintro e X2 ⟨rfl, k2⟩; rw [show textLn ((i : Int) + 1) yp.hash y = ty from HT.out.2.1]; have L2 := Lib.hid (K2.out.2.trans k2); clear hT k2
        go_wp2_with fail
        refine hK.out _ _ (Lib.hid L2.out) (fun hHeld5 => ?_)
        clear hK K hHeld4
        try simp only [Act.put, List.setIfInBounds_toArray, List.set_cons_zero, List.set_cons_succ, List.getElem_toArray, List.getElem_cons_zero, List.getElem_cons_succ]
        refine wpAnyH_take (i := 18) (v := ?_) rfl (by kernel_rfl) (by kernel_rfl) (by kernel_rfl) (fun _ _ _ h => h) (Or.inl ⟨by rfl, ?_⟩) hHeld5 ?_
        rotate_left
        · intro w hSw
          have hSw1 := hSw
          clear hSw
          try dsimp only at hSw1
          go_simp
          try (with_reducible rfl)
        try simp only [Act.put, List.setIfInBounds_toArray, List.set_cons_zero, List.set_cons_succ, List.getElem_toArray, List.getElem_cons_zero, List.getElem_cons_succ]
        refine wpAnyH_take (i := 19) (v := ?_) rfl (by kernel_rfl) (by kernel_rfl) (by kernel_rfl) (fun _ _ _ h => h) (Or.inl ⟨by rfl, ?_⟩) hHeld5 ?_
        rotate_left
        · intro w hSw
          have hSw1 := hSw
          clear hSw
          try dsimp only at hSw1
          go_simp
          try (with_reducible rfl)
        try simp only [Act.put, List.setIfInBounds_toArray, List.set_cons_zero, List.set_cons_succ, List.getElem_toArray, List.getElem_cons_zero, List.getElem_cons_succ]
        refine wpAnyH_done (by kernel_rfl) ?_ _
        clear hti
        have hne : (tx == ty) = false := by simpa using HT.out.2.2.1
        go_wp2_with fail
        refine (sum_any tx _ HT.out.2.2.2.2.1).mono ?_
        rintro e Y1 ⟨rfl, k5⟩
        have L5 := Lib.hid (L2.out.trans k5)
        clear k5
        go_wp2_with fail
        refine (sum_any ty _ HT.out.2.2.2.2.2).mono ?_
        rintro e Y2 ⟨rfl, k6⟩
        rw [← HT.out.2.2.2.1]
        have L6 := Lib.hid (L5.out.trans k6)
        clear k6 hne
        go_wp2_with fail
        exact bodyPost_ret (results_tmp3 rfl _ _ _) rfl ⟨tx, ty, rfl, HT.out.2.2.1, HT.out.2.2.2.1, HT.out.2.2.2.2.1, HT.out.2.2.2.2.2, L6.out⟩
end Go.Proofs.Ytdiacfbflbenoaa
