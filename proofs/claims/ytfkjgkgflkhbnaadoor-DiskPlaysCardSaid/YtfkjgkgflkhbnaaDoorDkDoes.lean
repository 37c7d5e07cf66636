/-
  Chapter 6: the law's does: an event on both disks. Conditions: as Pd and Ok6 say; utf8's tables.
-/
import Derived.Test.YtfkjgkgflkhbnaaDoorDkPair
namespace Go.Proofs.YtfkjgkgflkhbnaaDoor
open Go.RowKit Go.Maps
set_option linter.unusedSimpArgs false
set_option linter.unusedVariables false
set_option maxRecDepth 100000


structure PB (w0 W : World) (S S2 : List Nat) (d rd : Nat) (s s2 : St) (b : Nat) (o : OpE) : Prop where
  pd : Pd w0 W S S2 d rd s s2
  blk : Blk W b 49 (opc o).toArray
  n1 : b ∉ S
  n2 : b ∉ S2
section
variable {w0 W W1 : World} {S S' S2 S2' : List Nat} {d rd b : Nat} {s s' s2 s2' : St} {o : OpE}
theorem PB.prog (h : PB w0 W S S2 d rd s s2 b o) (hD : Dk W1 S' d s') (k : Step S S' W W1) : PB w0 W1 S' S2 d rd s' s2 b o :=
  ⟨h.pd.prog hD k, h.blk.step k h.n1, fun hm => by rcases k.fresh b hm with h1 | h1; exact h.n1 h1; have := h.blk.lt; omega, h.n2⟩
theorem PB.ref (h : PB w0 W S S2 d rd s s2 b o) (hR : Rf W1 S2' rd s2') (k : Step S2 S2' W W1) : PB w0 W1 S S2' d rd s s2' b o :=
  ⟨h.pd.ref hR k, h.blk.step k h.n2, h.n1, fun hm => by rcases k.fresh b hm with h1 | h1; exact h.n2 h1; have := h.blk.lt; omega⟩
theorem PB.keep (h : PB w0 W S S2 d rd s s2 b o) {T : List Nat} (k : Step [] T W W1) : PB w0 W1 S S2 d rd s s2 b o :=
  ⟨h.pd.keep k, h.blk.step k (by simp), h.n1, h.n2⟩
theorem Pd.box (h : Pd w0 W S S2 d rd s s2) (o : OpE) : PB w0 (W.alloc (.cells (opc o).toArray 49)) S S2 d rd s s2 W.heap.size o :=
  ⟨h.keep ((Step.refl [] W).alloc _), Blk.new W _ _, fun hm => by have := h.dk.lt _ hm; omega, fun hm => by have := h.rf.lt _ hm; omega⟩
end
theorem cut_any (x : List UInt8) (k : Int) (w : World) (S : List Nat) (d : Nat) (s : St) (h : Dk w S d s) (hB : StB s) (hx : x.length ≤ 1099511627776) : Calls Tryd.prog 21 #[.pointer (some ⟨d, 0, none⟩), Str x, .int .i64 k] w (DkP (cutS s x k) S d w) := by
  by_cases hk : k < 0
  · exact cut_neg x k hk w S d s h hB hx
  · obtain ⟨j, rfl⟩ : ∃ j : Nat, k = j := ⟨k.toNat, by omega⟩
    exact cut_nat x j w S d s h hB hx
def DoP (w0 : World) (d rd : Nat) (s : St) (e : Ending) (W' : World) : Prop := e = .returned (.bool true) ∧ ∃ S S2, Pd w0 W' S S2 d rd s s

set_option maxHeartbeats 4000000 in
theorem does_any (o : OpE) (w0 W : World) (S S2 : List Nat) (d rd : Nat) (s : St) (k : Nat) (hP : Pd w0 W S S2 d rd s s) (hO : Ok6 s k) (hT : Tabs w0) (hb : OpB w0 o) (hn : o.n.length ≤ 1000 ∧ o.s.length ≤ 5000) :
    Calls Tryd.prog 19 #[.pointer (some ⟨d, 0, none⟩), .pointer (some ⟨rd, 0, none⟩), .agg (opc o).toArray] W (DoP w0 d rd (stepS s o)) := by
  have HT := Lib.hid hT
  have HO := Lib.hid hO
  have HN := Lib.hid hn
  have HK := Lib.hid hb
  have HR := Lib.hid hP.dk.ris
  have HP0 : Hid (PB w0 (W.alloc (.cells (opc o).toArray 49)) S S2 d rd s s W.heap.size o) := Lib.hid (hP.box o)
  clear hT hO hn hb hP
  go_enter Tryd.func19, Tryd.ntmps19
  go_upto_region 1 with fail
  change Code.wp _ _ _ _ (W.alloc (.cells #[.int .i64 o.k, Str o.n, Str o.s, .int .i64 o.m, .slice o.ka o.ks.length o.kc] 49))
  obtain ⟨b, hb⟩ : ∃ b, b = W.heap.size := ⟨_, rfl⟩
  obtain ⟨V, hV⟩ : ∃ V, V = W.alloc (.cells #[.int .i64 o.k, Str o.n, Str o.s, .int .i64 o.m, .slice o.ka o.ks.length o.kc] 49) := ⟨_, rfl⟩
  rw [show W.alloc (.cells (opc o).toArray 49) = V from hV.symm, ← hb] at HP0
  rw [← hV]
  try rw [← hb]
  clear hV hb
  have HP := HP0
  clear HP0
  have b0 := HP.out.blk.cell 0
  simp only [opc, List.getElem?_toArray, List.getElem?_cons_zero, List.getElem?_cons_succ] at b0
  have b0l := HP.out.blk.lt
  cases h0 : (o.k == 0) with
  | true =>
    have HS : Hid (stepS s o = (appendS s o.n o.s).2) := Lib.hid (by rw [stepS, if_pos (show o.k = 0 by simpa using h0)])
    go_upto_region 3 with fail
    have PD := Lib.hid (HP.out.keep (Step.refl [] V).drew)
    refine wp_region_held_drew (S := fun U => Hid (Blk U b 49 (opc o).toArray)) (by kernel_rfl) (Lib.hid PD.out.blk) (fun hHeld => ?_)
    refine wpAnyH_take (i := 0) (v := ?_) rfl (by kernel_rfl) (by kernel_rfl) (by kernel_rfl) (fun _ _ _ h => h) (Or.inl ⟨by rfl, ?_⟩) hHeld ?_
    rotate_left
    · intro w hSw
      have hSw1 := hSw
      clear hSw
      try dsimp only at hSw1
      go_simp
      try (with_reducible rfl)
    try simp only [Act.put, List.setIfInBounds_toArray, List.set_cons_zero, List.set_cons_succ, List.getElem_toArray, List.getElem_cons_zero, List.getElem_cons_succ]
    refine wpAnyH_take (i := 1) (v := ?_) rfl (by kernel_rfl) (by kernel_rfl) (by kernel_rfl) (fun _ _ _ h => h) (Or.inl ⟨by rfl, ?_⟩) hHeld ?_
    rotate_left
    · intro w hSw
      have hSw1 := hSw
      clear hSw
      try dsimp only at hSw1
      go_simp
      try (with_reducible rfl)
    try simp only [Act.put, List.setIfInBounds_toArray, List.set_cons_zero, List.set_cons_succ, List.getElem_toArray, List.getElem_cons_zero, List.getElem_cons_succ]
    refine wpAnyH_take (i := 2) (v := ?_) rfl (by kernel_rfl) (by kernel_rfl) (by kernel_rfl) (fun _ _ _ h => h) (Or.inl ⟨by rfl, ?_⟩) hHeld ?_
    rotate_left
    · intro w hSw
      have hSw1 := hSw
      clear hSw
      have t0 := hSw1.out.cell 1
      have tl := hSw1.out.lt
      simp only [opc, List.getElem?_toArray, List.getElem?_cons_zero, List.getElem?_cons_succ] at t0
      go_simp
      try (with_reducible rfl)
    try simp only [Act.put, List.setIfInBounds_toArray, List.set_cons_zero, List.set_cons_succ, List.getElem_toArray, List.getElem_cons_zero, List.getElem_cons_succ]
    refine wpAnyH_take (i := 3) (v := ?_) rfl (by kernel_rfl) (by kernel_rfl) (by kernel_rfl) (fun _ _ _ h => h) (Or.inl ⟨by rfl, ?_⟩) hHeld ?_
    rotate_left
    · intro w hSw
      have hSw1 := hSw
      clear hSw
      try dsimp only at hSw1
      go_simp
      try (with_reducible rfl)
    try simp only [Act.put, List.setIfInBounds_toArray, List.set_cons_zero, List.set_cons_succ, List.getElem_toArray, List.getElem_cons_zero, List.getElem_cons_succ]
    refine wpAnyH_take (i := 4) (v := ?_) rfl (by kernel_rfl) (by kernel_rfl) (by kernel_rfl) (fun _ _ _ h => h) (Or.inl ⟨by rfl, ?_⟩) hHeld ?_
    rotate_left
    · intro w hSw
      have hSw1 := hSw
      clear hSw
      have t0 := hSw1.out.cell 2
      have tl := hSw1.out.lt
      simp only [opc, List.getElem?_toArray, List.getElem?_cons_zero, List.getElem?_cons_succ] at t0
      go_simp
      try (with_reducible rfl)
    try simp only [Act.put, List.setIfInBounds_toArray, List.set_cons_zero, List.set_cons_succ, List.getElem_toArray, List.getElem_cons_zero, List.getElem_cons_succ]
    refine wpAnyH_take (i := 6) (v := ?_) rfl (by kernel_rfl) (by kernel_rfl) (by kernel_rfl) (fun _ _ _ h => h) (Or.inl ⟨by rfl, ?_⟩) hHeld ?_
    rotate_left
    · intro w hSw
      have hSw1 := hSw
      clear hSw
      try dsimp only at hSw1
      go_simp
      try (with_reducible rfl)
    try simp only [Act.put, List.setIfInBounds_toArray, List.set_cons_zero, List.set_cons_succ, List.getElem_toArray, List.getElem_cons_zero, List.getElem_cons_succ]
    refine wpAnyH_take (i := 7) (v := ?_) rfl (by kernel_rfl) (by kernel_rfl) (by kernel_rfl) (fun _ _ _ h => h) (Or.inl ⟨by rfl, ?_⟩) hHeld ?_
    rotate_left
    · intro w hSw
      have hSw1 := hSw
      clear hSw
      try dsimp only at hSw1
      go_simp
      try (with_reducible rfl)
    try simp only [Act.put, List.setIfInBounds_toArray, List.set_cons_zero, List.set_cons_succ, List.getElem_toArray, List.getElem_cons_zero, List.getElem_cons_succ]
    refine wpAnyH_take (i := 8) (v := ?_) rfl (by kernel_rfl) (by kernel_rfl) (by kernel_rfl) (fun _ _ _ h => h) (Or.inl ⟨by rfl, ?_⟩) hHeld ?_
    rotate_left
    · intro w hSw
      have hSw1 := hSw
      clear hSw
      have t0 := hSw1.out.cell 1
      have tl := hSw1.out.lt
      simp only [opc, List.getElem?_toArray, List.getElem?_cons_zero, List.getElem?_cons_succ] at t0
      go_simp
      try (with_reducible rfl)
    try simp only [Act.put, List.setIfInBounds_toArray, List.set_cons_zero, List.set_cons_succ, List.getElem_toArray, List.getElem_cons_zero, List.getElem_cons_succ]
    refine wpAnyH_take (i := 9) (v := ?_) rfl (by kernel_rfl) (by kernel_rfl) (by kernel_rfl) (fun _ _ _ h => h) (Or.inl ⟨by rfl, ?_⟩) hHeld ?_
    rotate_left
    · intro w hSw
      have hSw1 := hSw
      clear hSw
      try dsimp only at hSw1
      go_simp
      try (with_reducible rfl)
    try simp only [Act.put, List.setIfInBounds_toArray, List.set_cons_zero, List.set_cons_succ, List.getElem_toArray, List.getElem_cons_zero, List.getElem_cons_succ]
    refine wpAnyH_take (i := 10) (v := ?_) rfl (by kernel_rfl) (by kernel_rfl) (by kernel_rfl) (fun _ _ _ h => h) (Or.inl ⟨by rfl, ?_⟩) hHeld ?_
    rotate_left
    · intro w hSw
      have hSw1 := hSw
      clear hSw
      have t0 := hSw1.out.cell 2
      have tl := hSw1.out.lt
      simp only [opc, List.getElem?_toArray, List.getElem?_cons_zero, List.getElem?_cons_succ] at t0
      go_simp
      try (with_reducible rfl)
    try simp only [Act.put, List.setIfInBounds_toArray, List.set_cons_zero, List.set_cons_succ, List.getElem_toArray, List.getElem_cons_zero, List.getElem_cons_succ]
    refine wpAnyH_ready (rs := [5]) (by kernel_rfl) (by simp) ?_
    refine AllReadyH.cons rfl (fun K hK => ?_) AllReadyH.nil
    go_simp
    refine (append_any o.n o.s _ S d s PD.out.pd.dk HO.out.b (HT.out.step PD.out.pd.st) ⟨(by have := HN.out.1; omega), by have := HN.out.2; omega⟩).mono ?_; rintro e w2 ⟨rfl, S1, hD1, st1⟩; have P1 := Lib.hid (PD.out.prog hD1 st1); clear hD1 st1
    go_wp2_with fail
    refine hK.out _ _ (Lib.hid P1.out.blk) (fun hHeld2 => ?_)
    clear hK K hHeld
    try simp only [Act.put, List.setIfInBounds_toArray, List.set_cons_zero, List.set_cons_succ, List.getElem_toArray, List.getElem_cons_zero, List.getElem_cons_succ]
    refine wpAnyH_ready (rs := [11]) (by kernel_rfl) (by simp) ?_
    refine AllReadyH.cons rfl (fun K hK => ?_) AllReadyH.nil
    go_simp
    refine (rappend_any o.n o.s _ S2 rd s P1.out.pd.rf HO.out.b HR.out ⟨(by have := HN.out.1; omega), by have := HN.out.2; omega⟩).mono ?_; rintro e w3 ⟨rfl, S3, hR3, st3⟩; have P2 := Lib.hid (P1.out.ref hR3 st3); clear hR3 st3
    go_wp2_with fail
    refine hK.out _ _ (Lib.hid P2.out.blk) (fun hHeld3 => ?_)
    clear hK K hHeld2
    try simp only [Act.put, List.setIfInBounds_toArray, List.set_cons_zero, List.set_cons_succ, List.getElem_toArray, List.getElem_cons_zero, List.getElem_cons_succ]
    refine wpAnyH_take (i := 12) (v := ?_) rfl (by kernel_rfl) (by kernel_rfl) (by kernel_rfl) (fun _ _ _ h => h) (Or.inl ⟨by rfl, ?_⟩) hHeld3 ?_
    rotate_left
    · intro w hSw
      have hSw1 := hSw
      clear hSw
      try dsimp only at hSw1
      go_simp
      try (with_reducible rfl)
    try simp only [Act.put, List.setIfInBounds_toArray, List.set_cons_zero, List.set_cons_succ, List.getElem_toArray, List.getElem_cons_zero, List.getElem_cons_succ]
    refine wpAnyH_take (i := 13) (v := ?_) rfl (by kernel_rfl) (by kernel_rfl) (by kernel_rfl) (fun _ _ _ h => h) (Or.inl ⟨by rfl, ?_⟩) hHeld3 ?_
    rotate_left
    · intro w hSw
      have hSw1 := hSw
      clear hSw
      try dsimp only at hSw1
      go_simp
      try (with_reducible rfl)
    try simp only [Act.put, List.setIfInBounds_toArray, List.set_cons_zero, List.set_cons_succ, List.getElem_toArray, List.getElem_cons_zero, List.getElem_cons_succ]
    refine wpAnyH_done (by kernel_rfl) ?_ _
    go_wp2_with fail
    exact bodyPost_ret (results_tmp rfl _ _ _) rfl ⟨rfl, _, _, by rw [HS.out]; exact P2.out.pd⟩
  | false =>
    cases h1 : (o.k == 1) with
    | true =>
      have HS : Hid (stepS s o = (syncS s o.n).2) := Lib.hid (by rw [stepS, if_neg (show ¬ o.k = 0 by have := h0; simpa using this), if_pos (show o.k = 1 by simpa using h1)])
      go_upto_region 5 with fail
      have PD := Lib.hid (HP.out.keep (Step.refl [] V).drew)
      refine wp_region_held_drew (S := fun U => Hid (Blk U b 49 (opc o).toArray)) (by kernel_rfl) (Lib.hid PD.out.blk) (fun hHeld => ?_)
      refine wpAnyH_take (i := 0) (v := ?_) rfl (by kernel_rfl) (by kernel_rfl) (by kernel_rfl) (fun _ _ _ h => h) (Or.inl ⟨by rfl, ?_⟩) hHeld ?_
      rotate_left
      · intro w hSw
        have hSw1 := hSw
        clear hSw
        try dsimp only at hSw1
        go_simp
        try (with_reducible rfl)
      try simp only [Act.put, List.setIfInBounds_toArray, List.set_cons_zero, List.set_cons_succ, List.getElem_toArray, List.getElem_cons_zero, List.getElem_cons_succ]
      refine wpAnyH_take (i := 1) (v := ?_) rfl (by kernel_rfl) (by kernel_rfl) (by kernel_rfl) (fun _ _ _ h => h) (Or.inl ⟨by rfl, ?_⟩) hHeld ?_
      rotate_left
      · intro w hSw
        have hSw1 := hSw
        clear hSw
        try dsimp only at hSw1
        go_simp
        try (with_reducible rfl)
      try simp only [Act.put, List.setIfInBounds_toArray, List.set_cons_zero, List.set_cons_succ, List.getElem_toArray, List.getElem_cons_zero, List.getElem_cons_succ]
      refine wpAnyH_take (i := 2) (v := ?_) rfl (by kernel_rfl) (by kernel_rfl) (by kernel_rfl) (fun _ _ _ h => h) (Or.inl ⟨by rfl, ?_⟩) hHeld ?_
      rotate_left
      · intro w hSw
        have hSw1 := hSw
        clear hSw
        have t0 := hSw1.out.cell 1
        have tl := hSw1.out.lt
        simp only [opc, List.getElem?_toArray, List.getElem?_cons_zero, List.getElem?_cons_succ] at t0
        go_simp
        try (with_reducible rfl)
      try simp only [Act.put, List.setIfInBounds_toArray, List.set_cons_zero, List.set_cons_succ, List.getElem_toArray, List.getElem_cons_zero, List.getElem_cons_succ]
      refine wpAnyH_take (i := 4) (v := ?_) rfl (by kernel_rfl) (by kernel_rfl) (by kernel_rfl) (fun _ _ _ h => h) (Or.inl ⟨by rfl, ?_⟩) hHeld ?_
      rotate_left
      · intro w hSw
        have hSw1 := hSw
        clear hSw
        try dsimp only at hSw1
        go_simp
        try (with_reducible rfl)
      try simp only [Act.put, List.setIfInBounds_toArray, List.set_cons_zero, List.set_cons_succ, List.getElem_toArray, List.getElem_cons_zero, List.getElem_cons_succ]
      refine wpAnyH_take (i := 5) (v := ?_) rfl (by kernel_rfl) (by kernel_rfl) (by kernel_rfl) (fun _ _ _ h => h) (Or.inl ⟨by rfl, ?_⟩) hHeld ?_
      rotate_left
      · intro w hSw
        have hSw1 := hSw
        clear hSw
        try dsimp only at hSw1
        go_simp
        try (with_reducible rfl)
      try simp only [Act.put, List.setIfInBounds_toArray, List.set_cons_zero, List.set_cons_succ, List.getElem_toArray, List.getElem_cons_zero, List.getElem_cons_succ]
      refine wpAnyH_take (i := 6) (v := ?_) rfl (by kernel_rfl) (by kernel_rfl) (by kernel_rfl) (fun _ _ _ h => h) (Or.inl ⟨by rfl, ?_⟩) hHeld ?_
      rotate_left
      · intro w hSw
        have hSw1 := hSw
        clear hSw
        have t0 := hSw1.out.cell 1
        have tl := hSw1.out.lt
        simp only [opc, List.getElem?_toArray, List.getElem?_cons_zero, List.getElem?_cons_succ] at t0
        go_simp
        try (with_reducible rfl)
      try simp only [Act.put, List.setIfInBounds_toArray, List.set_cons_zero, List.set_cons_succ, List.getElem_toArray, List.getElem_cons_zero, List.getElem_cons_succ]
      refine wpAnyH_ready (rs := [3]) (by kernel_rfl) (by simp) ?_
      refine AllReadyH.cons rfl (fun K hK => ?_) AllReadyH.nil
      go_simp
      refine (sync_any o.n _ S d s PD.out.pd.dk HO.out.b (by have := HN.out.1; omega)).mono ?_; rintro e w2 ⟨rfl, S1, hD1, st1⟩; have P1 := Lib.hid (PD.out.prog hD1 st1); clear hD1 st1
      go_wp2_with fail
      refine hK.out _ _ (Lib.hid P1.out.blk) (fun hHeld2 => ?_)
      clear hK K hHeld
      try simp only [Act.put, List.setIfInBounds_toArray, List.set_cons_zero, List.set_cons_succ, List.getElem_toArray, List.getElem_cons_zero, List.getElem_cons_succ]
      refine wpAnyH_ready (rs := [7]) (by kernel_rfl) (by simp) ?_
      refine AllReadyH.cons rfl (fun K hK => ?_) AllReadyH.nil
      go_simp
      refine (rsync_any o.n _ S2 rd s P1.out.pd.rf HO.out.b HR.out).mono ?_; rintro e w3 ⟨rfl, S3, hR3, st3⟩; have P2 := Lib.hid (P1.out.ref hR3 st3); clear hR3 st3
      go_wp2_with fail
      refine hK.out _ _ (Lib.hid P2.out.blk) (fun hHeld3 => ?_)
      clear hK K hHeld2
      try simp only [Act.put, List.setIfInBounds_toArray, List.set_cons_zero, List.set_cons_succ, List.getElem_toArray, List.getElem_cons_zero, List.getElem_cons_succ]
      refine wpAnyH_take (i := 8) (v := ?_) rfl (by kernel_rfl) (by kernel_rfl) (by kernel_rfl) (fun _ _ _ h => h) (Or.inl ⟨by rfl, ?_⟩) hHeld3 ?_
      rotate_left
      · intro w hSw
        have hSw1 := hSw
        clear hSw
        try dsimp only at hSw1
        go_simp
        try (with_reducible rfl)
      try simp only [Act.put, List.setIfInBounds_toArray, List.set_cons_zero, List.set_cons_succ, List.getElem_toArray, List.getElem_cons_zero, List.getElem_cons_succ]
      refine wpAnyH_take (i := 9) (v := ?_) rfl (by kernel_rfl) (by kernel_rfl) (by kernel_rfl) (fun _ _ _ h => h) (Or.inl ⟨by rfl, ?_⟩) hHeld3 ?_
      rotate_left
      · intro w hSw
        have hSw1 := hSw
        clear hSw
        try dsimp only at hSw1
        go_simp
        try (with_reducible rfl)
      try simp only [Act.put, List.setIfInBounds_toArray, List.set_cons_zero, List.set_cons_succ, List.getElem_toArray, List.getElem_cons_zero, List.getElem_cons_succ]
      refine wpAnyH_done (by kernel_rfl) ?_ _
      go_wp2_with fail
      exact bodyPost_ret (results_tmp rfl _ _ _) rfl ⟨rfl, _, _, by rw [HS.out]; exact P2.out.pd⟩
    | false =>
      cases h2 : (o.k == 2) with
      | true =>
        have HS : Hid (stepS s o = (cutS s o.n o.m).2) := Lib.hid (by rw [stepS, if_neg (show ¬ o.k = 0 by have := h0; simpa using this), if_neg (show ¬ o.k = 1 by have := h1; simpa using this), if_pos (show o.k = 2 by simpa using h2)])
        go_upto_region 7 with fail
        have PD := Lib.hid (HP.out.keep (Step.refl [] V).drew)
        refine wp_region_held_drew (S := fun U => Hid (Blk U b 49 (opc o).toArray)) (by kernel_rfl) (Lib.hid PD.out.blk) (fun hHeld => ?_)
        refine wpAnyH_take (i := 0) (v := ?_) rfl (by kernel_rfl) (by kernel_rfl) (by kernel_rfl) (fun _ _ _ h => h) (Or.inl ⟨by rfl, ?_⟩) hHeld ?_
        rotate_left
        · intro w hSw
          have hSw1 := hSw
          clear hSw
          try dsimp only at hSw1
          go_simp
          try (with_reducible rfl)
        try simp only [Act.put, List.setIfInBounds_toArray, List.set_cons_zero, List.set_cons_succ, List.getElem_toArray, List.getElem_cons_zero, List.getElem_cons_succ]
        refine wpAnyH_take (i := 1) (v := ?_) rfl (by kernel_rfl) (by kernel_rfl) (by kernel_rfl) (fun _ _ _ h => h) (Or.inl ⟨by rfl, ?_⟩) hHeld ?_
        rotate_left
        · intro w hSw
          have hSw1 := hSw
          clear hSw
          try dsimp only at hSw1
          go_simp
          try (with_reducible rfl)
        try simp only [Act.put, List.setIfInBounds_toArray, List.set_cons_zero, List.set_cons_succ, List.getElem_toArray, List.getElem_cons_zero, List.getElem_cons_succ]
        refine wpAnyH_take (i := 2) (v := ?_) rfl (by kernel_rfl) (by kernel_rfl) (by kernel_rfl) (fun _ _ _ h => h) (Or.inl ⟨by rfl, ?_⟩) hHeld ?_
        rotate_left
        · intro w hSw
          have hSw1 := hSw
          clear hSw
          have t0 := hSw1.out.cell 1
          have tl := hSw1.out.lt
          simp only [opc, List.getElem?_toArray, List.getElem?_cons_zero, List.getElem?_cons_succ] at t0
          go_simp
          try (with_reducible rfl)
        try simp only [Act.put, List.setIfInBounds_toArray, List.set_cons_zero, List.set_cons_succ, List.getElem_toArray, List.getElem_cons_zero, List.getElem_cons_succ]
        refine wpAnyH_take (i := 3) (v := ?_) rfl (by kernel_rfl) (by kernel_rfl) (by kernel_rfl) (fun _ _ _ h => h) (Or.inl ⟨by rfl, ?_⟩) hHeld ?_
        rotate_left
        · intro w hSw
          have hSw1 := hSw
          clear hSw
          try dsimp only at hSw1
          go_simp
          try (with_reducible rfl)
        try simp only [Act.put, List.setIfInBounds_toArray, List.set_cons_zero, List.set_cons_succ, List.getElem_toArray, List.getElem_cons_zero, List.getElem_cons_succ]
        refine wpAnyH_take (i := 4) (v := ?_) rfl (by kernel_rfl) (by kernel_rfl) (by kernel_rfl) (fun _ _ _ h => h) (Or.inl ⟨by rfl, ?_⟩) hHeld ?_
        rotate_left
        · intro w hSw
          have hSw1 := hSw
          clear hSw
          have t0 := hSw1.out.cell 3
          have tl := hSw1.out.lt
          simp only [opc, List.getElem?_toArray, List.getElem?_cons_zero, List.getElem?_cons_succ] at t0
          go_simp
          try (with_reducible rfl)
        try simp only [Act.put, List.setIfInBounds_toArray, List.set_cons_zero, List.set_cons_succ, List.getElem_toArray, List.getElem_cons_zero, List.getElem_cons_succ]
        refine wpAnyH_take (i := 6) (v := ?_) rfl (by kernel_rfl) (by kernel_rfl) (by kernel_rfl) (fun _ _ _ h => h) (Or.inl ⟨by rfl, ?_⟩) hHeld ?_
        rotate_left
        · intro w hSw
          have hSw1 := hSw
          clear hSw
          try dsimp only at hSw1
          go_simp
          try (with_reducible rfl)
        try simp only [Act.put, List.setIfInBounds_toArray, List.set_cons_zero, List.set_cons_succ, List.getElem_toArray, List.getElem_cons_zero, List.getElem_cons_succ]
        refine wpAnyH_take (i := 7) (v := ?_) rfl (by kernel_rfl) (by kernel_rfl) (by kernel_rfl) (fun _ _ _ h => h) (Or.inl ⟨by rfl, ?_⟩) hHeld ?_
        rotate_left
        · intro w hSw
          have hSw1 := hSw
          clear hSw
          try dsimp only at hSw1
          go_simp
          try (with_reducible rfl)
        try simp only [Act.put, List.setIfInBounds_toArray, List.set_cons_zero, List.set_cons_succ, List.getElem_toArray, List.getElem_cons_zero, List.getElem_cons_succ]
        refine wpAnyH_take (i := 8) (v := ?_) rfl (by kernel_rfl) (by kernel_rfl) (by kernel_rfl) (fun _ _ _ h => h) (Or.inl ⟨by rfl, ?_⟩) hHeld ?_
        rotate_left
        · intro w hSw
          have hSw1 := hSw
          clear hSw
          have t0 := hSw1.out.cell 1
          have tl := hSw1.out.lt
          simp only [opc, List.getElem?_toArray, List.getElem?_cons_zero, List.getElem?_cons_succ] at t0
          go_simp
          try (with_reducible rfl)
        try simp only [Act.put, List.setIfInBounds_toArray, List.set_cons_zero, List.set_cons_succ, List.getElem_toArray, List.getElem_cons_zero, List.getElem_cons_succ]
        refine wpAnyH_take (i := 9) (v := ?_) rfl (by kernel_rfl) (by kernel_rfl) (by kernel_rfl) (fun _ _ _ h => h) (Or.inl ⟨by rfl, ?_⟩) hHeld ?_
        rotate_left
        · intro w hSw
          have hSw1 := hSw
          clear hSw
          try dsimp only at hSw1
          go_simp
          try (with_reducible rfl)
        try simp only [Act.put, List.setIfInBounds_toArray, List.set_cons_zero, List.set_cons_succ, List.getElem_toArray, List.getElem_cons_zero, List.getElem_cons_succ]
        refine wpAnyH_take (i := 10) (v := ?_) rfl (by kernel_rfl) (by kernel_rfl) (by kernel_rfl) (fun _ _ _ h => h) (Or.inl ⟨by rfl, ?_⟩) hHeld ?_
        rotate_left
        · intro w hSw
          have hSw1 := hSw
          clear hSw
          have t0 := hSw1.out.cell 3
          have tl := hSw1.out.lt
          simp only [opc, List.getElem?_toArray, List.getElem?_cons_zero, List.getElem?_cons_succ] at t0
          go_simp
          try (with_reducible rfl)
        try simp only [Act.put, List.setIfInBounds_toArray, List.set_cons_zero, List.set_cons_succ, List.getElem_toArray, List.getElem_cons_zero, List.getElem_cons_succ]
        refine wpAnyH_ready (rs := [5]) (by kernel_rfl) (by simp) ?_
        refine AllReadyH.cons rfl (fun K hK => ?_) AllReadyH.nil
        go_simp
        refine (cut_any o.n o.m _ S d s PD.out.pd.dk HO.out.b (by have := HN.out.1; omega)).mono ?_; rintro e w2 ⟨rfl, S1, hD1, st1⟩; have P1 := Lib.hid (PD.out.prog hD1 st1); clear hD1 st1
        go_wp2_with fail
        refine hK.out _ _ (Lib.hid P1.out.blk) (fun hHeld2 => ?_)
        clear hK K hHeld
        try simp only [Act.put, List.setIfInBounds_toArray, List.set_cons_zero, List.set_cons_succ, List.getElem_toArray, List.getElem_cons_zero, List.getElem_cons_succ]
        refine wpAnyH_ready (rs := [11]) (by kernel_rfl) (by simp) ?_
        refine AllReadyH.cons rfl (fun K hK => ?_) AllReadyH.nil
        go_simp
        refine (rcut_any o.n o.m _ S2 rd s P1.out.pd.rf HO.out.b HR.out).mono ?_; rintro e w3 ⟨rfl, S3, hR3, st3⟩; have P2 := Lib.hid (P1.out.ref hR3 st3); clear hR3 st3
        go_wp2_with fail
        refine hK.out _ _ (Lib.hid P2.out.blk) (fun hHeld3 => ?_)
        clear hK K hHeld2
        try simp only [Act.put, List.setIfInBounds_toArray, List.set_cons_zero, List.set_cons_succ, List.getElem_toArray, List.getElem_cons_zero, List.getElem_cons_succ]
        refine wpAnyH_take (i := 12) (v := ?_) rfl (by kernel_rfl) (by kernel_rfl) (by kernel_rfl) (fun _ _ _ h => h) (Or.inl ⟨by rfl, ?_⟩) hHeld3 ?_
        rotate_left
        · intro w hSw
          have hSw1 := hSw
          clear hSw
          try dsimp only at hSw1
          go_simp
          try (with_reducible rfl)
        try simp only [Act.put, List.setIfInBounds_toArray, List.set_cons_zero, List.set_cons_succ, List.getElem_toArray, List.getElem_cons_zero, List.getElem_cons_succ]
        refine wpAnyH_take (i := 13) (v := ?_) rfl (by kernel_rfl) (by kernel_rfl) (by kernel_rfl) (fun _ _ _ h => h) (Or.inl ⟨by rfl, ?_⟩) hHeld3 ?_
        rotate_left
        · intro w hSw
          have hSw1 := hSw
          clear hSw
          try dsimp only at hSw1
          go_simp
          try (with_reducible rfl)
        try simp only [Act.put, List.setIfInBounds_toArray, List.set_cons_zero, List.set_cons_succ, List.getElem_toArray, List.getElem_cons_zero, List.getElem_cons_succ]
        refine wpAnyH_done (by kernel_rfl) ?_ _
        go_wp2_with fail
        exact bodyPost_ret (results_tmp rfl _ _ _) rfl ⟨rfl, _, _, by rw [HS.out]; exact P2.out.pd⟩
      | false =>
        cases h3 : (o.k == 3) with
        | true =>
          have HS : Hid (stepS s o = (removeS s o.n).2) := Lib.hid (by rw [stepS, if_neg (show ¬ o.k = 0 by have := h0; simpa using this), if_neg (show ¬ o.k = 1 by have := h1; simpa using this), if_neg (show ¬ o.k = 2 by have := h2; simpa using this), if_pos (show o.k = 3 by simpa using h3)])
          go_upto_region 9 with fail
          have PD := Lib.hid (HP.out.keep (Step.refl [] V).drew)
          refine wp_region_held_drew (S := fun U => Hid (Blk U b 49 (opc o).toArray)) (by kernel_rfl) (Lib.hid PD.out.blk) (fun hHeld => ?_)
          refine wpAnyH_take (i := 0) (v := ?_) rfl (by kernel_rfl) (by kernel_rfl) (by kernel_rfl) (fun _ _ _ h => h) (Or.inl ⟨by rfl, ?_⟩) hHeld ?_
          rotate_left
          · intro w hSw
            have hSw1 := hSw
            clear hSw
            try dsimp only at hSw1
            go_simp
            try (with_reducible rfl)
          try simp only [Act.put, List.setIfInBounds_toArray, List.set_cons_zero, List.set_cons_succ, List.getElem_toArray, List.getElem_cons_zero, List.getElem_cons_succ]
          refine wpAnyH_take (i := 1) (v := ?_) rfl (by kernel_rfl) (by kernel_rfl) (by kernel_rfl) (fun _ _ _ h => h) (Or.inl ⟨by rfl, ?_⟩) hHeld ?_
          rotate_left
          · intro w hSw
            have hSw1 := hSw
            clear hSw
            try dsimp only at hSw1
            go_simp
            try (with_reducible rfl)
          try simp only [Act.put, List.setIfInBounds_toArray, List.set_cons_zero, List.set_cons_succ, List.getElem_toArray, List.getElem_cons_zero, List.getElem_cons_succ]
          refine wpAnyH_take (i := 2) (v := ?_) rfl (by kernel_rfl) (by kernel_rfl) (by kernel_rfl) (fun _ _ _ h => h) (Or.inl ⟨by rfl, ?_⟩) hHeld ?_
          rotate_left
          · intro w hSw
            have hSw1 := hSw
            clear hSw
            have t0 := hSw1.out.cell 1
            have tl := hSw1.out.lt
            simp only [opc, List.getElem?_toArray, List.getElem?_cons_zero, List.getElem?_cons_succ] at t0
            go_simp
            try (with_reducible rfl)
          try simp only [Act.put, List.setIfInBounds_toArray, List.set_cons_zero, List.set_cons_succ, List.getElem_toArray, List.getElem_cons_zero, List.getElem_cons_succ]
          refine wpAnyH_take (i := 4) (v := ?_) rfl (by kernel_rfl) (by kernel_rfl) (by kernel_rfl) (fun _ _ _ h => h) (Or.inl ⟨by rfl, ?_⟩) hHeld ?_
          rotate_left
          · intro w hSw
            have hSw1 := hSw
            clear hSw
            try dsimp only at hSw1
            go_simp
            try (with_reducible rfl)
          try simp only [Act.put, List.setIfInBounds_toArray, List.set_cons_zero, List.set_cons_succ, List.getElem_toArray, List.getElem_cons_zero, List.getElem_cons_succ]
          refine wpAnyH_take (i := 5) (v := ?_) rfl (by kernel_rfl) (by kernel_rfl) (by kernel_rfl) (fun _ _ _ h => h) (Or.inl ⟨by rfl, ?_⟩) hHeld ?_
          rotate_left
          · intro w hSw
            have hSw1 := hSw
            clear hSw
            try dsimp only at hSw1
            go_simp
            try (with_reducible rfl)
          try simp only [Act.put, List.setIfInBounds_toArray, List.set_cons_zero, List.set_cons_succ, List.getElem_toArray, List.getElem_cons_zero, List.getElem_cons_succ]
          refine wpAnyH_take (i := 6) (v := ?_) rfl (by kernel_rfl) (by kernel_rfl) (by kernel_rfl) (fun _ _ _ h => h) (Or.inl ⟨by rfl, ?_⟩) hHeld ?_
          rotate_left
          · intro w hSw
            have hSw1 := hSw
            clear hSw
            have t0 := hSw1.out.cell 1
            have tl := hSw1.out.lt
            simp only [opc, List.getElem?_toArray, List.getElem?_cons_zero, List.getElem?_cons_succ] at t0
            go_simp
            try (with_reducible rfl)
          try simp only [Act.put, List.setIfInBounds_toArray, List.set_cons_zero, List.set_cons_succ, List.getElem_toArray, List.getElem_cons_zero, List.getElem_cons_succ]
          refine wpAnyH_ready (rs := [3]) (by kernel_rfl) (by simp) ?_
          refine AllReadyH.cons rfl (fun K hK => ?_) AllReadyH.nil
          go_simp
          refine (remove_any o.n _ S d s PD.out.pd.dk HO.out.b (by have := HN.out.1; omega)).mono ?_; rintro e w2 ⟨rfl, S1, hD1, st1⟩; have P1 := Lib.hid (PD.out.prog hD1 st1); clear hD1 st1
          go_wp2_with fail
          refine hK.out _ _ (Lib.hid P1.out.blk) (fun hHeld2 => ?_)
          clear hK K hHeld
          try simp only [Act.put, List.setIfInBounds_toArray, List.set_cons_zero, List.set_cons_succ, List.getElem_toArray, List.getElem_cons_zero, List.getElem_cons_succ]
          refine wpAnyH_ready (rs := [7]) (by kernel_rfl) (by simp) ?_
          refine AllReadyH.cons rfl (fun K hK => ?_) AllReadyH.nil
          go_simp
          refine (rremove_any o.n _ S2 rd s P1.out.pd.rf HO.out.b HR.out).mono ?_; rintro e w3 ⟨rfl, S3, hR3, st3⟩; have P2 := Lib.hid (P1.out.ref hR3 st3); clear hR3 st3
          go_wp2_with fail
          refine hK.out _ _ (Lib.hid P2.out.blk) (fun hHeld3 => ?_)
          clear hK K hHeld2
          try simp only [Act.put, List.setIfInBounds_toArray, List.set_cons_zero, List.set_cons_succ, List.getElem_toArray, List.getElem_cons_zero, List.getElem_cons_succ]
          refine wpAnyH_take (i := 8) (v := ?_) rfl (by kernel_rfl) (by kernel_rfl) (by kernel_rfl) (fun _ _ _ h => h) (Or.inl ⟨by rfl, ?_⟩) hHeld3 ?_
          rotate_left
          · intro w hSw
            have hSw1 := hSw
            clear hSw
            try dsimp only at hSw1
            go_simp
            try (with_reducible rfl)
          try simp only [Act.put, List.setIfInBounds_toArray, List.set_cons_zero, List.set_cons_succ, List.getElem_toArray, List.getElem_cons_zero, List.getElem_cons_succ]
          refine wpAnyH_take (i := 9) (v := ?_) rfl (by kernel_rfl) (by kernel_rfl) (by kernel_rfl) (fun _ _ _ h => h) (Or.inl ⟨by rfl, ?_⟩) hHeld3 ?_
          rotate_left
          · intro w hSw
            have hSw1 := hSw
            clear hSw
            try dsimp only at hSw1
            go_simp
            try (with_reducible rfl)
          try simp only [Act.put, List.setIfInBounds_toArray, List.set_cons_zero, List.set_cons_succ, List.getElem_toArray, List.getElem_cons_zero, List.getElem_cons_succ]
          refine wpAnyH_done (by kernel_rfl) ?_ _
          go_wp2_with fail
          exact bodyPost_ret (results_tmp rfl _ _ _) rfl ⟨rfl, _, _, by rw [HS.out]; exact P2.out.pd⟩
        | false =>
          cases h4 : (o.k == 4) with
          | true =>
            have HS : Hid (stepS s o = s) := Lib.hid (by rw [stepS, if_neg (show ¬ o.k = 0 by have := h0; simpa using this), if_neg (show ¬ o.k = 1 by have := h1; simpa using this), if_neg (show ¬ o.k = 2 by have := h2; simpa using this), if_neg (show ¬ o.k = 3 by have := h3; simpa using this), if_pos (show o.k = 4 by simpa using h4)])
            have b1 := HP.out.blk.cell 1
            simp only [opc, List.getElem?_toArray, List.getElem?_cons_zero, List.getElem?_cons_succ] at b1
            have bl := HP.out.blk.lt
            go_wp2_with fail
            refine (read_any o.n V S d s HP.out.pd.dk HO.out.b (by have := HN.out.1; omega)).mono ?_
            rintro e w2 ⟨rfl, st1⟩
            have P1 := Lib.hid (HP.out.keep st1)
            clear st1
            have q1 := P1.out.blk.cell 1
            simp only [opc, List.getElem?_toArray, List.getElem?_cons_zero, List.getElem?_cons_succ] at q1
            have ql := P1.out.blk.lt
            go_wp2_with fail
            refine (rread_any o.n w2 S2 rd s P1.out.pd.rf HO.out.b).mono ?_
            rintro e w3 ⟨rfl, nq, st2⟩
            have P2 := Lib.hid (P1.out.keep (W1 := w3) (T := []) (by rw [st2]; exact (Step.refl [] _).drewN nq))
            clear st2
            go_wp2_with fail
            exact bodyPost_ret (results_tmp rfl _ _ _) rfl ⟨rfl, _, _, by rw [HS.out]; exact P2.out.pd⟩
          | false =>
            cases h5 : (o.k == 5) with
            | true =>
              have HS : Hid (stepS s o = fuseS s o.m) := Lib.hid (by rw [stepS, if_neg (show ¬ o.k = 0 by have := h0; simpa using this), if_neg (show ¬ o.k = 1 by have := h1; simpa using this), if_neg (show ¬ o.k = 2 by have := h2; simpa using this), if_neg (show ¬ o.k = 3 by have := h3; simpa using this), if_neg (show ¬ o.k = 4 by have := h4; simpa using this), if_pos (show o.k = 5 by simpa using h5)])
              have b3 := HP.out.blk.cell 3
              simp only [opc, List.getElem?_toArray, List.getElem?_cons_zero, List.getElem?_cons_succ] at b3
              have bl := HP.out.blk.lt
              go_wp2_with fail
              refine (fuse_any o.m V S d s HP.out.pd.dk).mono ?_
              rintro e w2 ⟨rfl, hD1, st1⟩
              have P1 := Lib.hid (HP.out.prog hD1 st1)
              clear hD1 st1
              have q3 := P1.out.blk.cell 3
              simp only [opc, List.getElem?_toArray, List.getElem?_cons_zero, List.getElem?_cons_succ] at q3
              have ql := P1.out.blk.lt
              obtain ⟨a, cap, hR⟩ := P1.out.pd.rf
              have r2 := hR.blk.cell 2
              simp only [List.getElem?_toArray, List.getElem?_cons_zero, List.getElem?_cons_succ] at r2
              have rf2 := hR.blk.frozen 2
              have rl := hR.blk.lt
              have HRM := Lib.hid hR
              clear hR
              go_wp2_with fail
              have hkk : Step [rd] [rd] w2 (w2.setCell ⟨rd, 2, none⟩ (.int .i64 (max o.m (-1)))) := (Step.refl [rd] w2).setCell (p := ⟨rd, 2, none⟩) (.inl (by simp)) _
              have hR2 := HRM.out.head (s' := fuseS s o.m) hkk rfl (by have := HRM.out.blk.set 2 (.int .i64 (max o.m (-1))); simpa [fuseS] using this)
              have P2 := Lib.hid (P1.out.ref ⟨a, cap, hR2⟩ (hkk.wide (T := S2) (by intro j hj; simp only [List.mem_singleton] at hj; rw [hj]; exact HRM.out.memd) (by intro j hj; exact .inl hj)))
              exact bodyPost_ret (results_tmp rfl _ _ _) rfl ⟨rfl, _, _, by rw [HS.out]; exact P2.out.pd⟩
            | false =>
              cases h6 : (o.k == 6) with
              | true =>
                have HS : Hid (stepS s o = (roomS s o.m).2) := Lib.hid (by rw [stepS, if_neg (show ¬ o.k = 0 by have := h0; simpa using this), if_neg (show ¬ o.k = 1 by have := h1; simpa using this), if_neg (show ¬ o.k = 2 by have := h2; simpa using this), if_neg (show ¬ o.k = 3 by have := h3; simpa using this), if_neg (show ¬ o.k = 4 by have := h4; simpa using this), if_neg (show ¬ o.k = 5 by have := h5; simpa using this), if_pos (show o.k = 6 by simpa using h6)])
                have b3 := HP.out.blk.cell 3
                simp only [opc, List.getElem?_toArray, List.getElem?_cons_zero, List.getElem?_cons_succ] at b3
                have bl := HP.out.blk.lt
                obtain ⟨a, cap, hR⟩ := HP.out.pd.rf
                have r1 := hR.blk.cell 1
                simp only [List.getElem?_toArray, List.getElem?_cons_zero, List.getElem?_cons_succ] at r1
                have rf1 := hR.blk.frozen 1
                have rl := hR.blk.lt
                have HRM := Lib.hid hR
                have hbr : b ≠ rd := fun e => HP.out.n2 (by rw [e]; exact hR.memd)
                have HBR := Lib.hid hbr
                clear hR
                by_cases h0 : 0 ≤ o.m
                · have hd0 : decide (0 ≤ o.m) = true := decide_eq_true h0
                  by_cases h1 : o.m ≤ 8388608
                  · have hd1 : decide (o.m ≤ 8388608) = true := decide_eq_true h1
                    have HOK : Hid (okRoom o.m = true) := Lib.hid (by simp [okRoom, h0, h1])
                    clear h0 h1 hbr
                    go_upto_region 21 with fail
                    have hkk : Step [rd] [rd] V (V.setCell ⟨rd, 1, none⟩ (.int .i64 o.m)) := (Step.refl [rd] V).setCell (p := ⟨rd, 1, none⟩) (.inl (by simp)) _
                    have hR2 := HRM.out.head (s' := (roomS s o.m).2) hkk (by simp only [roomS, HOK.out, if_true]) (by have := HRM.out.blk.set 1 (.int .i64 o.m); simpa [roomS, HOK.out] using this)
                    obtain ⟨X, hX⟩ : ∃ X, X = V.setCell ⟨rd, 1, none⟩ (.int .i64 o.m) := ⟨_, rfl⟩
                    rw [← hX] at hkk hR2
                    rw [← hX]
                    have PX := Lib.hid (HP.out.ref (s2' := (roomS s o.m).2) ⟨a, cap, hR2⟩ (hkk.wide (T := S2) (by intro j hj; simp only [List.mem_singleton] at hj; rw [hj]; exact HRM.out.memd) (by intro j hj; exact .inl hj)))
                    clear hX hkk hR2 b3 bl r1 rf1 rl
                    have q3 := PX.out.blk.cell 3
                    simp only [opc, List.getElem?_toArray, List.getElem?_cons_zero, List.getElem?_cons_succ] at q3
                    have ql := PX.out.blk.lt
                    go_wp2_with fail
                    refine (room_any o.m _ S d s PX.out.pd.dk).mono ?_
                    rintro e w2 ⟨rfl, S1, hD1, st1⟩
                    have P2 := Lib.hid (PX.out.prog hD1 st1)
                    clear hD1 st1
                    rw [show (roomS s o.m).1 = 0 by simp only [roomS, HOK.out, if_true, Bool.false_eq_true, if_false]]
                    go_wp2_with fail
                    exact bodyPost_ret (results_tmp rfl _ _ _) rfl ⟨rfl, _, _, by rw [HS.out]; exact P2.out.pd⟩
                  · have hd1 : decide (o.m ≤ 8388608) = false := decide_eq_false h1
                    have HOK : Hid (okRoom o.m = false) := Lib.hid (by simp [okRoom, h1])
                    clear h0 h1 hbr
                    have PX := HP
                    go_wp2_with fail
                    refine (room_any o.m _ S d s PX.out.pd.dk).mono ?_
                    rintro e w2 ⟨rfl, S1, hD1, st1⟩
                    have P2 := Lib.hid (PX.out.prog hD1 st1)
                    clear hD1 st1
                    rw [show (roomS s o.m).1 = 1 by simp only [roomS, HOK.out, if_true, Bool.false_eq_true, if_false]]
                    go_wp2_with fail
                    have HSS : Hid ((roomS s o.m).2 = s) := Lib.hid (by simp only [roomS, HOK.out, Bool.false_eq_true, if_false])
                    exact bodyPost_ret (results_tmp rfl _ _ _) rfl ⟨rfl, _, _, by rw [HS.out]; have := P2.out.pd; rw [HSS.out] at this ⊢; exact this⟩
                · have hd0 : decide (0 ≤ o.m) = false := decide_eq_false h0
                  have HOK : Hid (okRoom o.m = false) := Lib.hid (by simp [okRoom, h0])
                  clear h0 hbr
                  have PX := HP
                  go_wp2_with fail
                  refine (room_any o.m _ S d s PX.out.pd.dk).mono ?_
                  rintro e w2 ⟨rfl, S1, hD1, st1⟩
                  have P2 := Lib.hid (PX.out.prog hD1 st1)
                  clear hD1 st1
                  rw [show (roomS s o.m).1 = 1 by simp only [roomS, HOK.out, if_true, Bool.false_eq_true, if_false]]
                  go_wp2_with fail
                  have HSS : Hid ((roomS s o.m).2 = s) := Lib.hid (by simp only [roomS, HOK.out, Bool.false_eq_true, if_false])
                  exact bodyPost_ret (results_tmp rfl _ _ _) rfl ⟨rfl, _, _, by rw [HS.out]; have := P2.out.pd; rw [HSS.out] at this ⊢; exact this⟩
              | false =>
                cases h7 : (o.k == 7) with
                | true =>
                  have HS : Hid (stepS s o = crashS s o.ks) := Lib.hid (by rw [stepS, if_neg (show ¬ o.k = 0 by have := h0; simpa using this), if_neg (show ¬ o.k = 1 by have := h1; simpa using this), if_neg (show ¬ o.k = 2 by have := h2; simpa using this), if_neg (show ¬ o.k = 3 by have := h3; simpa using this), if_neg (show ¬ o.k = 4 by have := h4; simpa using this), if_neg (show ¬ o.k = 5 by have := h5; simpa using this), if_neg (show ¬ o.k = 6 by have := h6; simpa using this), if_pos (show o.k = 7 by simpa using h7)])
                  have b4 := HP.out.blk.cell 4
                  simp only [opc, List.getElem?_toArray, List.getElem?_cons_zero, List.getElem?_cons_succ] at b4
                  have bl := HP.out.blk.lt
                  go_wp2_with fail
                  refine (crash_any o.ks V S d s o.ka o.kc HP.out.pd.dk HO.out.b (HP.out.pd.rdK HK.out.rd) (fun hp g hg => (HP.out.pd.low (rd_low HK.out.rd hp g hg)).1) ⟨HK.out.ks, HO.out.nm⟩).mono ?_
                  rintro e w2 ⟨rfl, hD1, st1⟩
                  have P1 := Lib.hid (HP.out.prog hD1 st1)
                  clear hD1 st1
                  have q4 := P1.out.blk.cell 4
                  simp only [opc, List.getElem?_toArray, List.getElem?_cons_zero, List.getElem?_cons_succ] at q4
                  have ql := P1.out.blk.lt
                  go_wp2_with fail
                  refine (rcrash_any o.ks w2 S2 rd s o.ka o.kc P1.out.pd.rf HO.out.b (P1.out.pd.rdK HK.out.rd) HK.out.ks).mono ?_
                  rintro e w3 ⟨rfl, S3, hR3, st3⟩
                  have P2 := Lib.hid (P1.out.ref hR3 st3)
                  clear hR3 st3
                  go_wp2_with fail
                  exact bodyPost_ret (results_tmp rfl _ _ _) rfl ⟨rfl, _, _, by rw [HS.out]; exact P2.out.pd⟩
                | false =>
                  have HS : Hid (stepS s o = s) := Lib.hid (by rw [stepS, if_neg (show ¬ o.k = 0 by have := h0; simpa using this), if_neg (show ¬ o.k = 1 by have := h1; simpa using this), if_neg (show ¬ o.k = 2 by have := h2; simpa using this), if_neg (show ¬ o.k = 3 by have := h3; simpa using this), if_neg (show ¬ o.k = 4 by have := h4; simpa using this), if_neg (show ¬ o.k = 5 by have := h5; simpa using this), if_neg (show ¬ o.k = 6 by have := h6; simpa using this), if_neg (show ¬ o.k = 7 by have := h7; simpa using this)])
                  have P2 := HP
                  go_wp2_with fail
                  exact bodyPost_ret (results_tmp rfl _ _ _) rfl ⟨rfl, _, _, by rw [HS.out]; exact P2.out.pd⟩

end Go.Proofs.YtfkjgkgflkhbnaaDoor
