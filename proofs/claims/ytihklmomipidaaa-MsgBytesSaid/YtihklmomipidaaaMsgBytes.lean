/-
  MsgBytes: any message has the bytes that the document says, or none, and comes back from them. No condition beyond the row's.
-/
import Derived.Test.YtihklmomipidaaaMsgL
import Derived.Test.YtihklmomipidaaaMsgN
import Derived.Test.YtihklmomipidaaaMsgO
import Derived.Test.YtihklmomipidaaaRows
namespace Go.Proofs.Ytihklmomipidaaa
open Go.RowKit Go.Lib Go.ChangeShapes Go.WideShapes Go.ChangeAt
set_option linter.unusedSimpArgs false
set_option linter.unusedVariables false
set_option maxRecDepth 100000

set_option maxHeartbeats 8000000 in
theorem bytes10_any (x : Rw) (a : Option Addr) (cap : Nat) (w : World) (hr : Rd w 3 a x.es.length (entcs x.es)) (hl : x.es.length ≤ 4398046511104) (hd : x.data.length ≤ 140737488351232) :
    Calls Try.prog 4 #[rwV x (.slice a x.es.length cap)] w fun e w' => e = .returned (.bool true) ∧ Step [] [] w w' := by
  have H0 : Hid (Rd (w.alloc (.cells (rwc x (.slice a x.es.length cap)).toArray 24)) 3 a x.es.length (entcs x.es) ∧ Step [] [] w (w.alloc (.cells (rwc x (.slice a x.es.length cap)).toArray 24)) ∧ Blk (w.alloc (.cells (rwc x (.slice a x.es.length cap)).toArray 24)) w.heap.size 24 (rwc x (.slice a x.es.length cap)).toArray) := ⟨hr.alloc _, (Step.refl [] w).alloc _, Blk.new w _ _⟩
  have HL0 := Lib.hid (And.intro hl (And.intro (clean_len x) hd))
  clear hr hl hd
  go_enter Try.func4, Try.ntmps4
  go_wp2_with fail
  refine (awake10_true _).mono ?_
  rintro e w1 ⟨rfl, k1⟩
  obtain ⟨b, hb⟩ : ∃ b, b = w.heap.size := ⟨_, rfl⟩
  have H1 : Hid (Rd w1 3 a x.es.length (entcs x.es) ∧ Step [] [] w w1 ∧ Blk w1 b 24 (rwc x (.slice a x.es.length cap)).toArray) := by
    rw [hb]
    exact ⟨H0.out.1.step0 k1, H0.out.2.1.trans k1, H0.out.2.2.step k1 (by simp)⟩
  rw [← hb]
  clear k1 hb H0
  have ra := H1.out.2.2.rw
  have rl := H1.out.2.2.lt
  cases hik : isKind x.kind with
  | false =>
    have HK := Lib.hid hik
    clear hik
    go_wp2_with fail
    refine (of_none x a cap w1 HK.out).mono ?_
    rintro e w2 ⟨rfl, k2⟩
    have H2 : Hid (Rd w2 3 a x.es.length (entcs x.es) ∧ Step [] [] w w2 ∧ Blk w2 b 24 (rwc x (.slice a x.es.length cap)).toArray) := ⟨H1.out.1.step0 k2, H1.out.2.1.trans k2, H1.out.2.2.step k2 (by simp)⟩
    clear ra rl k2 H1
    have ra := H2.out.2.2.rw
    have rl := H2.out.2.2.lt
    go_wp2_with fail
    refine (great10_any x a cap w2 H2.out.1 HL0.out.1 HL0.out.2.2).mono ?_
    rintro e w3 ⟨rfl, k3⟩
    have H3 := Lib.hid (H2.out.2.1.trans k3)
    clear ra rl k3 H2
    cases hg : greatM x with
    | true =>
      go_wp2_with fail
      exact bodyPost_ret (results_tmp rfl _ _ _) rfl ⟨rfl, H3.out⟩
    | false =>
      go_wp2_with fail
      exact bodyPost_ret (results_tmp rfl _ _ _) rfl ⟨rfl, H3.out⟩
  | true =>
    have HK := Lib.hid hik
    clear hik
    go_wp2_with fail
    refine (of_any x a cap w1 HK.out H1.out.1 HL0.out.1).mono ?_
    rintro e w2 ⟨m, rfl, hmm, k2⟩
    have H2 : Hid (Rd w2 3 a x.es.length (entcs x.es) ∧ Step [] [] w w2 ∧ Blk w2 b 24 (rwc x (.slice a x.es.length cap)).toArray ∧ IsMsg w2 (cleanL x) m) := ⟨H1.out.1.step0 k2, H1.out.2.1.trans k2, H1.out.2.2.step k2 (by simp), hmm⟩
    clear ra rl k2 H1 hmm
    have ra := H2.out.2.2.1.rw
    have rl := H2.out.2.2.1.lt
    go_wp2_with fail
    refine (great10_any x a cap w2 H2.out.1 HL0.out.1 HL0.out.2.2).mono ?_
    rintro e w3 ⟨rfl, k3⟩
    have H3 : Hid (Rd w3 3 a x.es.length (entcs x.es) ∧ Step [] [] w w3 ∧ Blk w3 b 24 (rwc x (.slice a x.es.length cap)).toArray ∧ IsMsg w3 (cleanL x) m) := ⟨H2.out.1.step0 k3, H2.out.2.1.trans k3, H2.out.2.2.1.step k3 (by simp), H2.out.2.2.2.step k3⟩
    clear ra rl k3 H2
    cases hg : greatM x with
    | true =>
      go_wp2_with fail
      exact bodyPost_ret (results_tmp rfl _ _ _) rfl ⟨rfl, H3.out.2.1⟩
    | false =>
      obtain ⟨y, hy⟩ : ∃ y, y = cleanL x := ⟨_, rfl⟩
      have HDL : Hid (y.data.length ≤ 1099511627776) := by
        have h1 := (greatM_len hg).1
        have h2 := clean_data x
        rw [hy]
        exact Lib.hid (by omega)
      clear hg
      have HCL : Hid ((cleanL y = y ∧ isKind y.kind = true) ∧ (y.es.length ≤ 4398046511104 ∧ True) ∧ y = cleanL x) := by
        rw [hy]
        exact ⟨⟨(clean_clean x HK.out).1, by rw [(clean_clean x HK.out).2]; exact HK.out⟩, ⟨Nat.le_trans HL0.out.2.1 HL0.out.1, trivial⟩, rfl⟩
      rw [← hy] at H3
      clear hy
      go_wp2_with fail
      refine (encode_any H3.out.2.2.2 HDL.out).mono ?_
      rintro e V ⟨rfl, k4⟩
      have HV : Hid (Rd V 3 a x.es.length (entcs x.es) ∧ Step [] [] w V ∧ Blk V b 24 (rwc x (.slice a x.es.length cap)).toArray ∧ IsMsg V y m) := ⟨H3.out.1.step0 k4, H3.out.2.1.trans k4, H3.out.2.2.1.step k4 (by simp), H3.out.2.2.2.step k4⟩
      clear k4 H3
      cases hz : rightR y with
      | false =>
        have HZ := Lib.hid hz
        rw [show encL y = ([], 1) by simp [encL, hz]]
        clear hz
        go_upto_region 7 with fail
        refine wp_region_held_drew (S := fun W => Hid (Step [] [] V W)) (by kernel_rfl) (Lib.hid ((Step.refl [] V).drew)) (fun hHeld => ?_)
        refine wpAnyH_take (i := 0) (v := ?_) rfl (by kernel_rfl) (by kernel_rfl) (by kernel_rfl) (fun _ _ _ h => h) (Or.inl ⟨by rfl, ?_⟩) hHeld ?_
        rotate_left
        · intro w hSw
          have hSw1 := hSw
          clear hSw
          try dsimp only at hSw1
          go_simp
          try (with_reducible rfl)
        try simp only [Act.put, List.setIfInBounds_toArray, List.set_cons_zero, List.set_cons_succ, List.getElem_toArray, List.getElem_cons_zero, List.getElem_cons_succ]
        refine wpAnyH_take (i := 2) (v := ?_) rfl (by kernel_rfl) (by kernel_rfl) (by kernel_rfl) (fun _ _ _ h => h) (Or.inl ⟨by rfl, ?_⟩) hHeld ?_
        rotate_left
        · intro w hSw
          have hSw1 := hSw
          clear hSw
          have ra := (HV.out.2.2.1.step hSw1.out (by simp)).rw
          have rl := (HV.out.2.2.1.step hSw1.out (by simp)).lt
          go_simp
          try (with_reducible rfl)
        try simp only [Act.put, List.setIfInBounds_toArray, List.set_cons_zero, List.set_cons_succ, List.getElem_toArray, List.getElem_cons_zero, List.getElem_cons_succ]
        refine wpAnyH_ready (rs := [1]) (by kernel_rfl) (by simp) ?_
        refine AllReadyH.cons rfl (fun K hK => ?_) AllReadyH.nil
        go_simp
        refine (msgRight_any (HV.out.2.2.2.step hHeld.out) HDL.out).mono ?_; rintro e U1 ⟨rfl, k1⟩; rw [HZ.out]; have G1 := Lib.hid (hHeld.out.trans k1); clear k1
        go_wp2_with fail
        refine hK.out _ _ (Lib.hid G1.out) (fun hHeld2 => ?_)
        clear hK K hHeld
        try simp only [Act.put, List.setIfInBounds_toArray, List.set_cons_zero, List.set_cons_succ, List.getElem_toArray, List.getElem_cons_zero, List.getElem_cons_succ]
        refine wpAnyH_ready (rs := [3]) (by kernel_rfl) (by simp) ?_
        refine AllReadyH.cons rfl (fun K hK => ?_) AllReadyH.nil
        go_simp
        refine (refRight_any x a cap U1 (HV.out.1.step0 G1.out) HL0.out.1 HL0.out.2.2).mono ?_; rintro e U2 ⟨rfl, k2⟩; rw [HK.out, ← HCL.out.2.2, HZ.out]; simp only [Bool.and_true, Bool.and_false]; have G2 := Lib.hid (G1.out.trans k2); clear k2
        go_wp2_with fail
        refine hK.out _ _ (Lib.hid G2.out) (fun hHeld3 => ?_)
        clear hK K hHeld2
        try simp only [Act.put, List.setIfInBounds_toArray, List.set_cons_zero, List.set_cons_succ, List.getElem_toArray, List.getElem_cons_zero, List.getElem_cons_succ]
        refine wpAnyH_take (i := 4) (v := ?_) rfl (by kernel_rfl) (by kernel_rfl) (by kernel_rfl) (fun _ _ _ h => h) (Or.inl ⟨by rfl, ?_⟩) hHeld3 ?_
        rotate_left
        · intro w hSw
          have hSw1 := hSw
          clear hSw
          try dsimp only at hSw1
          go_simp
          try (with_reducible rfl)
        try simp only [Act.put, List.setIfInBounds_toArray, List.set_cons_zero, List.set_cons_succ, List.getElem_toArray, List.getElem_cons_zero, List.getElem_cons_succ]
        refine wpAnyH_take (i := 5) (v := ?_) rfl (by kernel_rfl) (by kernel_rfl) (by kernel_rfl) (fun _ _ _ h => h) (Or.inl ⟨by rfl, ?_⟩) hHeld3 ?_
        rotate_left
        · intro w hSw
          have hSw1 := hSw
          clear hSw
          try dsimp only at hSw1
          go_simp
          try (with_reducible rfl)
        try simp only [Act.put, List.setIfInBounds_toArray, List.set_cons_zero, List.set_cons_succ, List.getElem_toArray, List.getElem_cons_zero, List.getElem_cons_succ]
        refine wpAnyH_ready (rs := [6]) (by kernel_rfl) (by simp) ?_
        refine AllReadyH.cons rfl (fun K hK => ?_) AllReadyH.nil
        go_simp
        refine (msgRight_nil U2).mono ?_; rintro e U3 ⟨rfl, k3⟩; have G3 := Lib.hid (G2.out.trans k3); clear k3
        go_wp2_with fail
        refine hK.out _ _ (Lib.hid G3.out) (fun hHeld4 => ?_)
        clear hK K hHeld3
        try simp only [Act.put, List.setIfInBounds_toArray, List.set_cons_zero, List.set_cons_succ, List.getElem_toArray, List.getElem_cons_zero, List.getElem_cons_succ]
        refine wpAnyH_take (i := 7) (v := ?_) rfl (by kernel_rfl) (by kernel_rfl) (by kernel_rfl) (fun _ _ _ h => h) (Or.inl ⟨by rfl, ?_⟩) hHeld4 ?_
        rotate_left
        · intro w hSw
          have hSw1 := hSw
          clear hSw
          try dsimp only at hSw1
          go_simp
          try (with_reducible rfl)
        try simp only [Act.put, List.setIfInBounds_toArray, List.set_cons_zero, List.set_cons_succ, List.getElem_toArray, List.getElem_cons_zero, List.getElem_cons_succ]
        refine wpAnyH_done (by kernel_rfl) ?_ _
        have H7 : Hid (Rd U3 3 a x.es.length (entcs x.es) ∧ Step [] [] w U3 ∧ Blk U3 b 24 (rwc x (.slice a x.es.length cap)).toArray) := ⟨HV.out.1.step0 G3.out, HV.out.2.1.trans G3.out, HV.out.2.2.1.step G3.out (by simp)⟩
        clear G1 G2 G3 HV
        have ra := H7.out.2.2.rw
        have rl := H7.out.2.2.lt
        go_wp2_with fail
        refine (refRight_any x a cap U3 H7.out.1 HL0.out.1 HL0.out.2.2).mono ?_
        rintro e X1 ⟨rfl, k8⟩
        rw [HK.out, ← HCL.out.2.2, HZ.out]
        simp only [Bool.and_true, Bool.and_false]
        have H8 : Hid (Rd X1 3 a x.es.length (entcs x.es) ∧ Step [] [] w X1 ∧ Blk X1 b 24 (rwc x (.slice a x.es.length cap)).toArray) := ⟨H7.out.1.step0 k8, H7.out.2.1.trans k8, H7.out.2.2.step k8 (by simp)⟩
        clear k8 ra rl H7
        go_wp2_with fail
        exact bodyPost_ret (results_tmp rfl _ _ _) rfl ⟨rfl, H8.out.2.1⟩
      | true =>
        have HZ := Lib.hid hz
        rw [encL_ok y HCL.out.1.2 hz]
        clear hz
        go_upto_region 7 with fail
        refine wp_region_held_drew (S := fun W => Hid (Step [] [] V W)) (by kernel_rfl) (Lib.hid ((Step.refl [] V).drew)) (fun hHeld => ?_)
        refine wpAnyH_take (i := 0) (v := ?_) rfl (by kernel_rfl) (by kernel_rfl) (by kernel_rfl) (fun _ _ _ h => h) (Or.inl ⟨by rfl, ?_⟩) hHeld ?_
        rotate_left
        · intro w hSw
          have hSw1 := hSw
          clear hSw
          try dsimp only at hSw1
          go_simp
          try (with_reducible rfl)
        try simp only [Act.put, List.setIfInBounds_toArray, List.set_cons_zero, List.set_cons_succ, List.getElem_toArray, List.getElem_cons_zero, List.getElem_cons_succ]
        refine wpAnyH_take (i := 2) (v := ?_) rfl (by kernel_rfl) (by kernel_rfl) (by kernel_rfl) (fun _ _ _ h => h) (Or.inl ⟨by rfl, ?_⟩) hHeld ?_
        rotate_left
        · intro w hSw
          have hSw1 := hSw
          clear hSw
          have ra := (HV.out.2.2.1.step hSw1.out (by simp)).rw
          have rl := (HV.out.2.2.1.step hSw1.out (by simp)).lt
          go_simp
          try (with_reducible rfl)
        try simp only [Act.put, List.setIfInBounds_toArray, List.set_cons_zero, List.set_cons_succ, List.getElem_toArray, List.getElem_cons_zero, List.getElem_cons_succ]
        refine wpAnyH_ready (rs := [1]) (by kernel_rfl) (by simp) ?_
        refine AllReadyH.cons rfl (fun K hK => ?_) AllReadyH.nil
        go_simp
        refine (msgRight_any (HV.out.2.2.2.step hHeld.out) HDL.out).mono ?_; rintro e U1 ⟨rfl, k1⟩; rw [HZ.out]; have G1 := Lib.hid (hHeld.out.trans k1); clear k1
        go_wp2_with fail
        refine hK.out _ _ (Lib.hid G1.out) (fun hHeld2 => ?_)
        clear hK K hHeld
        try simp only [Act.put, List.setIfInBounds_toArray, List.set_cons_zero, List.set_cons_succ, List.getElem_toArray, List.getElem_cons_zero, List.getElem_cons_succ]
        refine wpAnyH_ready (rs := [3]) (by kernel_rfl) (by simp) ?_
        refine AllReadyH.cons rfl (fun K hK => ?_) AllReadyH.nil
        go_simp
        refine (refRight_any x a cap U1 (HV.out.1.step0 G1.out) HL0.out.1 HL0.out.2.2).mono ?_; rintro e U2 ⟨rfl, k2⟩; rw [HK.out, ← HCL.out.2.2, HZ.out]; simp only [Bool.and_true, Bool.and_false]; have G2 := Lib.hid (G1.out.trans k2); clear k2
        go_wp2_with fail
        refine hK.out _ _ (Lib.hid G2.out) (fun hHeld3 => ?_)
        clear hK K hHeld2
        try simp only [Act.put, List.setIfInBounds_toArray, List.set_cons_zero, List.set_cons_succ, List.getElem_toArray, List.getElem_cons_zero, List.getElem_cons_succ]
        refine wpAnyH_take (i := 4) (v := ?_) rfl (by kernel_rfl) (by kernel_rfl) (by kernel_rfl) (fun _ _ _ h => h) (Or.inl ⟨by rfl, ?_⟩) hHeld3 ?_
        rotate_left
        · intro w hSw
          have hSw1 := hSw
          clear hSw
          try dsimp only at hSw1
          go_simp
          try (with_reducible rfl)
        try simp only [Act.put, List.setIfInBounds_toArray, List.set_cons_zero, List.set_cons_succ, List.getElem_toArray, List.getElem_cons_zero, List.getElem_cons_succ]
        refine wpAnyH_take (i := 5) (v := ?_) rfl (by kernel_rfl) (by kernel_rfl) (by kernel_rfl) (fun _ _ _ h => h) (Or.inl ⟨by rfl, ?_⟩) hHeld3 ?_
        rotate_left
        · intro w hSw
          have hSw1 := hSw
          clear hSw
          try dsimp only at hSw1
          go_simp
          try (with_reducible rfl)
        try simp only [Act.put, List.setIfInBounds_toArray, List.set_cons_zero, List.set_cons_succ, List.getElem_toArray, List.getElem_cons_zero, List.getElem_cons_succ]
        refine wpAnyH_ready (rs := [6]) (by kernel_rfl) (by simp) ?_
        refine AllReadyH.cons rfl (fun K hK => ?_) AllReadyH.nil
        go_simp
        refine (msgRight_nil U2).mono ?_; rintro e U3 ⟨rfl, k3⟩; have G3 := Lib.hid (G2.out.trans k3); clear k3
        go_wp2_with fail
        refine hK.out _ _ (Lib.hid G3.out) (fun hHeld4 => ?_)
        clear hK K hHeld3
        try simp only [Act.put, List.setIfInBounds_toArray, List.set_cons_zero, List.set_cons_succ, List.getElem_toArray, List.getElem_cons_zero, List.getElem_cons_succ]
        refine wpAnyH_take (i := 7) (v := ?_) rfl (by kernel_rfl) (by kernel_rfl) (by kernel_rfl) (fun _ _ _ h => h) (Or.inl ⟨by rfl, ?_⟩) hHeld4 ?_
        rotate_left
        · intro w hSw
          have hSw1 := hSw
          clear hSw
          try dsimp only at hSw1
          go_simp
          try (with_reducible rfl)
        try simp only [Act.put, List.setIfInBounds_toArray, List.set_cons_zero, List.set_cons_succ, List.getElem_toArray, List.getElem_cons_zero, List.getElem_cons_succ]
        refine wpAnyH_done (by kernel_rfl) ?_ _
        have H7 : Hid (Rd U3 3 a x.es.length (entcs x.es) ∧ Step [] [] w U3 ∧ Blk U3 b 24 (rwc x (.slice a x.es.length cap)).toArray) := ⟨HV.out.1.step0 G3.out, HV.out.2.1.trans G3.out, HV.out.2.2.1.step G3.out (by simp)⟩
        clear G1 G2 G3 HV
        have ra := H7.out.2.2.rw
        have rl := H7.out.2.2.lt
        go_wp2_with fail
        refine (refRight_any x a cap U3 H7.out.1 HL0.out.1 HL0.out.2.2).mono ?_
        rintro e X1 ⟨rfl, k8⟩
        rw [HK.out, ← HCL.out.2.2, HZ.out]
        simp only [Bool.and_true, Bool.and_false]
        have H8 : Hid (Rd X1 3 a x.es.length (entcs x.es) ∧ Step [] [] w X1 ∧ Blk X1 b 24 (rwc x (.slice a x.es.length cap)).toArray) := ⟨H7.out.1.step0 k8, H7.out.2.1.trans k8, H7.out.2.2.step k8 (by simp)⟩
        clear k8 ra rl H7
        go_wp2_with fail
        refine (decode_any (msgB y) X1 (by have := (its_ok y HCL.out.1.2 HZ.out).2; omega)).mono ?_
        rintro e X2 ⟨h9, k9⟩
        rw [dec_enc y HCL.out.1.2 HCL.out.1.1 HZ.out] at h9
        rcases h9 with ⟨r, m9, hr9, rfl, hm9, _⟩ | ⟨h9, _⟩
        rotate_left
        · cases h9
        injection hr9 with hr9
        subst hr9
        have H9 : Hid (Rd X2 3 a x.es.length (entcs x.es) ∧ Step [] [] w X2 ∧ Blk X2 b 24 (rwc x (.slice a x.es.length cap)).toArray) := ⟨H8.out.1.step0 k9, H8.out.2.1.trans k9, H8.out.2.2.step k9 (by simp)⟩
        obtain ⟨T9, u9, F9, rfl, hF⟩ := hm9.flat
        have HF := Lib.hid hF
        clear k9 H8 hF hm9
        have ra := H9.out.2.2.rw
        have rl := H9.out.2.2.lt
        go_wp2_with fail
        refine (refClean_any x a cap X2 H9.out.1 HL0.out.1).mono ?_
        rintro e X3 ⟨a3, cap3, rfl, r3, k3⟩
        rw [HK.out]
        rw [← HCL.out.2.2] at r3 ⊢
        have H10 : Hid (Rd X3 3 a x.es.length (entcs x.es) ∧ Step [] [] w X3 ∧ Blk X3 b 24 (rwc x (.slice a x.es.length cap)).toArray ∧ Rd X3 3 a3 y.es.length (entcs y.es) ∧ Step [] [] X2 X3) := ⟨H9.out.1.step0 k3, H9.out.2.1.trans k3, H9.out.2.2.step k3 (by simp), r3, k3⟩
        clear k3 r3 H9 ra rl
        go_upto_region 13 with fail
        obtain ⟨Q, hQ⟩ : ∃ Q, Q = X3.alloc (.cells (rwc y (.slice a3 y.es.length cap3)).toArray 24) := ⟨_, rfl⟩
        obtain ⟨b3, hb3⟩ : ∃ b, b = X3.heap.size := ⟨_, rfl⟩
        have HQ : Hid (Rd Q 3 a x.es.length (entcs x.es) ∧ Step [] [] w Q ∧ Blk Q b 24 (rwc x (.slice a x.es.length cap)).toArray ∧ Rd Q 3 a3 y.es.length (entcs y.es) ∧ Blk Q b3 24 (rwc y (.slice a3 y.es.length cap3)).toArray) := by
          rw [hQ, hb3]
          exact ⟨H10.out.1.alloc _, H10.out.2.1.alloc _, H10.out.2.2.1.alloc _, H10.out.2.2.2.1.alloc _, Blk.new X3 _ _⟩
        have HF2 : Hid (Step [] [] X2 Q) := by
          rw [hQ]
          exact H10.out.2.2.2.2.alloc _
        rw [show X3.alloc (.cells #[.int .i64 y.kind, .int .i64 y.src, .int .i64 y.term, .int .i64 y.index, .int .i64 y.last, .int .i64 y.commit, .int .i64 y.round, .bool y.yes, .slice a3 y.es.length cap3, .string ⟨y.data.toArray⟩] 24) = Q from hQ.symm, ← hb3]
        clear hQ hb3 H10
        have m1 := HF.out.method
        have m2 := HF.out.ahead
        have m3 := HF.out.enter
        refine wp_region_held_drew (S := fun W => Hid (Step [] [] Q W)) (by kernel_rfl) (Lib.hid ((Step.refl [] Q).drew)) (fun hHeld => ?_)
        refine wpAnyH_take (i := 0) (v := ?_) rfl (by kernel_rfl) (by kernel_rfl) (by kernel_rfl) (fun _ _ _ h => h) (Or.inl ⟨by rfl, ?_⟩) hHeld ?_
        rotate_left
        · intro w hSw
          have hSw1 := hSw
          clear hSw
          try dsimp only at hSw1
          go_simp
          try (with_reducible rfl)
        try simp only [Act.put, List.setIfInBounds_toArray, List.set_cons_zero, List.set_cons_succ, List.getElem_toArray, List.getElem_cons_zero, List.getElem_cons_succ]
        refine wpAnyH_take (i := 1) (v := ?_) rfl (by kernel_rfl) (by kernel_rfl) (by kernel_rfl) (fun _ _ _ h => h) (Or.inl ⟨by rfl, ?_⟩) hHeld ?_
        rotate_left
        · intro w hSw
          have hSw1 := hSw
          clear hSw
          try dsimp only at hSw1
          go_simp
          try (with_reducible rfl)
        try simp only [Act.put, List.setIfInBounds_toArray, List.set_cons_zero, List.set_cons_succ, List.getElem_toArray, List.getElem_cons_zero, List.getElem_cons_succ]
        refine wpAnyH_take (i := 2) (v := ?_) rfl (by kernel_rfl) (by kernel_rfl) (by kernel_rfl) (fun _ _ _ h => h) (Or.inl ⟨by rfl, ?_⟩) hHeld ?_
        rotate_left
        · intro w hSw
          have hSw1 := hSw
          clear hSw
          try dsimp only at hSw1
          go_simp
          try (with_reducible rfl)
        try simp only [Act.put, List.setIfInBounds_toArray, List.set_cons_zero, List.set_cons_succ, List.getElem_toArray, List.getElem_cons_zero, List.getElem_cons_succ]
        refine wpAnyH_take (i := 3) (v := ?_) rfl (by kernel_rfl) (by kernel_rfl) (by kernel_rfl) (fun _ _ _ h => h) (Or.inl ⟨by rfl, ?_⟩) hHeld ?_
        rotate_left
        · intro w hSw
          have hSw1 := hSw
          clear hSw
          try dsimp only at hSw1
          go_simp
          try (with_reducible rfl)
        try simp only [Act.put, List.setIfInBounds_toArray, List.set_cons_zero, List.set_cons_succ, List.getElem_toArray, List.getElem_cons_zero, List.getElem_cons_succ]
        refine wpAnyH_take (i := 4) (v := ?_) rfl (by kernel_rfl) (by kernel_rfl) (by kernel_rfl) (fun _ _ _ h => h) (Or.inl ⟨by rfl, ?_⟩) hHeld ?_
        rotate_left
        · intro w hSw
          have hSw1 := hSw
          clear hSw
          have ra := (HQ.out.2.2.1.step hSw1.out (by simp)).rw
          have rl := (HQ.out.2.2.1.step hSw1.out (by simp)).lt
          go_simp
          try (with_reducible rfl)
        try simp only [Act.put, List.setIfInBounds_toArray, List.set_cons_zero, List.set_cons_succ, List.getElem_toArray, List.getElem_cons_zero, List.getElem_cons_succ]
        refine wpAnyH_ready (rs := [5]) (by kernel_rfl) (by simp) ?_
        refine AllReadyH.cons rfl (fun K hK => ?_) AllReadyH.nil
        go_simp
        refine (refBy_any x a cap _ HK.out (by rw [← HCL.out.2.2]; exact HZ.out) (HQ.out.1.step0 hHeld.out)).mono ?_; rintro e U1 ⟨rfl, k1⟩; rw [← HCL.out.2.2]; have G1 := Lib.hid (hHeld.out.trans k1); clear k1
        go_wp2_with fail
        refine hK.out _ _ (Lib.hid G1.out) (fun hHeld2 => ?_)
        clear hK K hHeld
        try simp only [Act.put, List.setIfInBounds_toArray, List.set_cons_zero, List.set_cons_succ, List.getElem_toArray, List.getElem_cons_zero, List.getElem_cons_succ]
        refine wpAnyH_take (i := 6) (v := ?_) rfl (by kernel_rfl) (by kernel_rfl) (by kernel_rfl) (fun _ _ _ h => h) (Or.inl ⟨by rfl, ?_⟩) hHeld2 ?_
        rotate_left
        · intro w hSw
          have hSw1 := hSw
          clear hSw
          try dsimp only at hSw1
          go_simp
          try (with_reducible rfl)
        try simp only [Act.put, List.setIfInBounds_toArray, List.set_cons_zero, List.set_cons_succ, List.getElem_toArray, List.getElem_cons_zero, List.getElem_cons_succ]
        refine wpAnyH_take (i := 7) (v := ?_) rfl (by kernel_rfl) (by kernel_rfl) (by kernel_rfl) (fun _ _ _ h => h) (Or.inl ⟨by rfl, ?_⟩) hHeld2 ?_
        rotate_left
        · intro w hSw
          have hSw1 := hSw
          clear hSw
          try dsimp only at hSw1
          go_simp
          try (with_reducible rfl)
        try simp only [Act.put, List.setIfInBounds_toArray, List.set_cons_zero, List.set_cons_succ, List.getElem_toArray, List.getElem_cons_zero, List.getElem_cons_succ]
        refine wpAnyH_take (i := 8) (v := ?_) rfl (by kernel_rfl) (by kernel_rfl) (by kernel_rfl) (fun _ _ _ h => h) (Or.inl ⟨by rfl, ?_⟩) hHeld2 ?_
        rotate_left
        · intro w hSw
          have hSw1 := hSw
          clear hSw
          try dsimp only at hSw1
          go_simp
          try (with_reducible rfl)
        try simp only [Act.put, List.setIfInBounds_toArray, List.set_cons_zero, List.set_cons_succ, List.getElem_toArray, List.getElem_cons_zero, List.getElem_cons_succ]
        refine wpAnyH_take (i := 9) (v := ?_) rfl (by kernel_rfl) (by kernel_rfl) (by kernel_rfl) (fun _ _ _ h => h) (Or.inl ⟨by rfl, ?_⟩) hHeld2 ?_
        rotate_left
        · intro w hSw
          have hSw1 := hSw
          clear hSw
          try dsimp only at hSw1
          go_simp
          try (with_reducible rfl)
        try simp only [Act.put, List.setIfInBounds_toArray, List.set_cons_zero, List.set_cons_succ, List.getElem_toArray, List.getElem_cons_zero, List.getElem_cons_succ]
        refine wpAnyH_take (i := 10) (v := ?_) rfl (by kernel_rfl) (by kernel_rfl) (by kernel_rfl) (fun _ _ _ h => h) (Or.inl ⟨by rfl, ?_⟩) hHeld2 ?_
        rotate_left
        · intro w hSw
          have hSw1 := hSw
          clear hSw
          try dsimp only at hSw1
          go_simp
          try (with_reducible rfl)
        try simp only [Act.put, List.setIfInBounds_toArray, List.set_cons_zero, List.set_cons_succ, List.getElem_toArray, List.getElem_cons_zero, List.getElem_cons_succ]
        refine wpAnyH_take (i := 11) (v := ?_) rfl (by kernel_rfl) (by kernel_rfl) (by kernel_rfl) (fun _ _ _ h => h) (Or.inl ⟨by rfl, ?_⟩) hHeld2 ?_
        rotate_left
        · intro w hSw
          have hSw1 := hSw
          clear hSw
          try dsimp only at hSw1
          go_simp
          try (with_reducible rfl)
        try simp only [Act.put, List.setIfInBounds_toArray, List.set_cons_zero, List.set_cons_succ, List.getElem_toArray, List.getElem_cons_zero, List.getElem_cons_succ]
        refine wpAnyH_take (i := 12) (v := ?_) rfl (by kernel_rfl) (by kernel_rfl) (by kernel_rfl) (fun _ _ _ h => h) (Or.inl ⟨by rfl, ?_⟩) hHeld2 ?_
        rotate_left
        · intro w hSw
          have hSw1 := hSw
          clear hSw
          try dsimp only at hSw1
          go_simp
          try (with_reducible rfl)
        try simp only [Act.put, List.setIfInBounds_toArray, List.set_cons_zero, List.set_cons_succ, List.getElem_toArray, List.getElem_cons_zero, List.getElem_cons_succ]
        refine wpAnyH_take (i := 13) (v := ?_) rfl (by kernel_rfl) (by kernel_rfl) (by kernel_rfl) (fun _ _ _ h => h) (Or.inl ⟨by rfl, ?_⟩) hHeld2 ?_
        rotate_left
        · intro w hSw
          have hSw1 := hSw
          clear hSw
          try dsimp only at hSw1
          go_simp
          try (with_reducible rfl)
        try simp only [Act.put, List.setIfInBounds_toArray, List.set_cons_zero, List.set_cons_succ, List.getElem_toArray, List.getElem_cons_zero, List.getElem_cons_succ]
        refine wpAnyH_take (i := 14) (v := ?_) rfl (by kernel_rfl) (by kernel_rfl) (by kernel_rfl) (fun _ _ _ h => h) (Or.inl ⟨by rfl, ?_⟩) hHeld2 ?_
        rotate_left
        · intro w hSw
          have hSw1 := hSw
          clear hSw
          try dsimp only at hSw1
          go_simp
          try (with_reducible rfl)
        try simp only [Act.put, List.setIfInBounds_toArray, List.set_cons_zero, List.set_cons_succ, List.getElem_toArray, List.getElem_cons_zero, List.getElem_cons_succ]
        refine wpAnyH_take (i := 15) (v := ?_) rfl (by kernel_rfl) (by kernel_rfl) (by kernel_rfl) (fun _ _ _ h => h) (Or.inl ⟨by rfl, ?_⟩) hHeld2 ?_
        rotate_left
        · intro w hSw
          have hSw1 := hSw
          clear hSw
          try dsimp only at hSw1
          go_simp
          try (with_reducible rfl)
        try simp only [Act.put, List.setIfInBounds_toArray, List.set_cons_zero, List.set_cons_succ, List.getElem_toArray, List.getElem_cons_zero, List.getElem_cons_succ]
        refine wpAnyH_take (i := 16) (v := ?_) rfl (by kernel_rfl) (by kernel_rfl) (by kernel_rfl) (fun _ _ _ h => h) (Or.inl ⟨by rfl, ?_⟩) hHeld2 ?_
        rotate_left
        · intro w hSw
          have hSw1 := hSw
          clear hSw
          try dsimp only at hSw1
          go_simp
          try (with_reducible rfl)
        try simp only [Act.put, List.setIfInBounds_toArray, List.set_cons_zero, List.set_cons_succ, List.getElem_toArray, List.getElem_cons_zero, List.getElem_cons_succ]
        refine wpAnyH_take (i := 17) (v := ?_) rfl (by kernel_rfl) (by kernel_rfl) (by kernel_rfl) (fun _ _ _ h => h) (Or.inl ⟨by rfl, ?_⟩) hHeld2 ?_
        rotate_left
        · intro w hSw
          have hSw1 := hSw
          clear hSw
          try dsimp only at hSw1
          go_simp
          try (with_reducible rfl)
        try simp only [Act.put, List.setIfInBounds_toArray, List.set_cons_zero, List.set_cons_succ, List.getElem_toArray, List.getElem_cons_zero, List.getElem_cons_succ]
        refine wpAnyH_take (i := 19) (v := ?_) rfl (by kernel_rfl) (by kernel_rfl) (by kernel_rfl) (fun _ _ _ h => h) (Or.inl ⟨by rfl, ?_⟩) hHeld2 ?_
        rotate_left
        · intro w hSw
          have hSw1 := hSw
          clear hSw
          have ra := (HQ.out.2.2.2.2.step hSw1.out (by simp)).rw
          have rl := (HQ.out.2.2.2.2.step hSw1.out (by simp)).lt
          go_simp
          try (with_reducible rfl)
        try simp only [Act.put, List.setIfInBounds_toArray, List.set_cons_zero, List.set_cons_succ, List.getElem_toArray, List.getElem_cons_zero, List.getElem_cons_succ]
        refine wpAnyH_ready (rs := [18]) (by kernel_rfl) (by simp) ?_
        refine AllReadyH.cons rfl (fun K hK => ?_) AllReadyH.nil
        go_simp
        refine (HF.out.call _ (HF2.out.trans hHeld2.out)).mono ?_; rintro e U2 ⟨fa, fc, rfl, r1, k1⟩; have G2 := Lib.hid (And.intro r1 (hHeld2.out.trans k1)); clear r1 k1
        go_wp2_with fail
        refine hK.out _ _ (Lib.hid G2.out.2) (fun hHeld3 => ?_)
        clear hK K hHeld2
        try simp only [Act.put, List.setIfInBounds_toArray, List.set_cons_zero, List.set_cons_succ, List.getElem_toArray, List.getElem_cons_zero, List.getElem_cons_succ]
        refine wpAnyH_ready (rs := [20]) (by kernel_rfl) (by simp) ?_
        refine AllReadyH.cons rfl (fun K hK => ?_) AllReadyH.nil
        go_simp
        refine (sameR_any y _ _ _ _ U2 G2.out.1 (HQ.out.2.2.2.1.step0 G2.out.2) HCL.out.2.1.1).mono ?_; rintro e U3 ⟨rfl, k2⟩; have G3 := Lib.hid (G2.out.2.trans k2); clear k2
        go_wp2_with fail
        refine hK.out _ _ (Lib.hid G3.out) (fun hHeld4 => ?_)
        clear hK K hHeld3
        try simp only [Act.put, List.setIfInBounds_toArray, List.set_cons_zero, List.set_cons_succ, List.getElem_toArray, List.getElem_cons_zero, List.getElem_cons_succ]
        refine wpAnyH_take (i := 21) (v := ?_) rfl (by kernel_rfl) (by kernel_rfl) (by kernel_rfl) (fun _ _ _ h => h) (Or.inl ⟨by rfl, ?_⟩) hHeld4 ?_
        rotate_left
        · intro w hSw
          have hSw1 := hSw
          clear hSw
          try dsimp only at hSw1
          go_simp
          try (with_reducible rfl)
        try simp only [Act.put, List.setIfInBounds_toArray, List.set_cons_zero, List.set_cons_succ, List.getElem_toArray, List.getElem_cons_zero, List.getElem_cons_succ]
        refine wpAnyH_take (i := 22) (v := ?_) rfl (by kernel_rfl) (by kernel_rfl) (by kernel_rfl) (fun _ _ _ h => h) (Or.inl ⟨by rfl, ?_⟩) hHeld4 ?_
        rotate_left
        · intro w hSw
          have hSw1 := hSw
          clear hSw
          try dsimp only at hSw1
          go_simp
          try (with_reducible rfl)
        try simp only [Act.put, List.setIfInBounds_toArray, List.set_cons_zero, List.set_cons_succ, List.getElem_toArray, List.getElem_cons_zero, List.getElem_cons_succ]
        refine wpAnyH_done (by kernel_rfl) ?_ _
        go_wp2_with fail
        exact bodyPost_ret (results_tmp rfl _ _ _) rfl ⟨rfl, HQ.out.2.1.trans G3.out⟩

theorem MsgBytes_walk (v0 : Value) (w : World) {b0 : Nat} (h0 : Value.okWide Try.prog w .any b0 24 v0) (o0 : Op Try.prog w 24 v0.cells.toList) :
    Calls Try.prog 4 #[v0] w fun e w' => e = .returned (.bool true) ∧ Below w.heap.size w w' := by
  obtain ⟨x, a, cap, rfl, hr, hl, hd⟩ := raw_in h0 o0
  exact (bytes10_any x a cap w hr hl hd).mono fun e w' ⟨h1, h2⟩ => ⟨h1, h2.below0⟩
set_option maxRecDepth 100000 in
theorem MsgBytes_lifted (os : Os) (started : os.Started) (H : Type) (enc : TypeId × Value → H) :
    ReturnsInHanded {} Try.checked os 4 .any (Rows.msgBytesSpec.pre6 enc Try.prog Try.f4 Rows.msgBytesRow.domain false) (Rows.msgBytesSpec.post enc Try.prog Try.f4 false true false false) := by
  refine returnsInHanded_of_change_sized (C := Try.checked) (by kernel_rfl) started (by kernel_rfl) Try.func4
    (ChangeSpec.witness6 (enc := enc) (C := Try.checked) false ⟨#[], #[.agg #[.int .i64 0, .int .i64 0, .int .i64 0, .int .i64 0, .int .i64 0, .int .i64 0, .int .i64 0, .bool false, .slice none 0 0, .string ⟨#[]⟩]], []⟩ 8 (by kernel_rfl) (by kernel_rfl) (by kernel_rfl) (by kernel_rfl)) ?_
  intro W base args ds gs before hval0 hW hcnd hsz0 _
  have hval : ∀ (j : Nat) t v, Try.f4.params[j]? = some t → args[j]? = some v → Value.okWide Try.prog W .any base t v := hval0
  have hsz : (DataW.weightsEach Try.prog (Try.f4.params.toList ++ Rows.msgBytesSpec.plain.varTypes Try.prog) (ds ++ gs)).all (· ≤ reachBytes) = true := hsz0
  have hW' := hW
  obtain ⟨p, q, hA0, hV, rfl, hfz, hnd⟩ := hW
  have hA : DataW.TrodAll enc Try.prog W 0 (fun _ => true) true Try.f4.params.toList args.toList ds p := hA0
  rw [Try.params4] at hA hval hsz
  obtain ⟨v0, vs0, d0, ds0, p0, q0, hargs, rfl, rfl, h0, r0⟩ := trodAll_cons hA
  obtain ⟨rfl, rfl, rfl⟩ := trodAll_nil r0
  obtain rfl : args = #[v0] := by cases args; simp_all
  obtain ⟨rfl, rfl⟩ := trodVars_none hV
  have lt0 : ∀ x ∈ p0, x.block < W.heap.size := by obtain ⟨m, hm⟩ := h0; exact DataW.trod_lt m _ _ _ hm
  have o0 := op_of hsz (j := 0) rfl rfl h0
  refine (MsgBytes_walk v0 W (hval 0 _ v0 rfl rfl) o0).mono fun e W' ⟨he, bel⟩ => ?_
  subst he
  exact ⟨_, rfl, _, _, _, [], _, [], hW', trodAll_mk1 (shut_bool Try.underlying4 _), (trodAll_cons_mk (Below.trod (by kernel_rfl) (by kernel_rfl) (of_decide_eq_true (by kernel_rfl)) h0 bel lt0) trodAll_mk0), rfl, bel.frame _, fun h => by cases h⟩

/-- The statement. -/
theorem MsgBytes_holds : Rows.MsgBytesSaid :=
  OpenClaim.holds_of_wide 4 Try.f4 rfl rfl rfl rfl rfl rfl rfl ⟨rfl, rfl, rfl, rfl, rfl⟩ rfl rfl rfl rfl rfl (by kernel_rfl) Try.func4 (by kernel_rfl)
    (of_decide_eq_true (by kernel_rfl)) (by unfold Func.isWrapper; rw [if_neg (of_decide_eq_false (by kernel_rfl))]; exact ⟨rfl, rfl⟩)
    (fun os started H enc _ => MsgBytes_lifted os started H enc)
#print axioms MsgBytes_holds
end Go.Proofs.Ytihklmomipidaaa
