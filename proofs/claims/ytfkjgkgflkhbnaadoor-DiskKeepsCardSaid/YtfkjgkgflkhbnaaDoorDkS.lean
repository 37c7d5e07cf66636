/-
  The reference's Sync, Cut, Remove in memory. Conditions: the bounds of StB; the list is rising.
-/
import Derived.Test.YtfkjgkgflkhbnaaDoorDkR
namespace Go.Proofs.YtfkjgkgflkhbnaaDoor
open Go.RowKit Go.Maps
set_option linter.unusedSimpArgs false
set_option linter.unusedVariables false
set_option maxRecDepth 100000


def RfP (r : Int × St) (S : List Nat) (d : Nat) (w : World) (e : Ending) (w' : World) : Prop := e = .returned (.int .i64 r.1) ∧ ∃ S', Rf w' S' d r.2 ∧ Step S S' w w'
theorem en_set (A B : List En) (f : En) (d' l' : List UInt8) : ((enVs (A ++ f :: B)).set (A.length * 3 + 1) (Str d')).set (A.length * 3 + 2) (Str l') = enVs (A ++ ⟨f.n, d', l'⟩ :: B) := by
  have h : ∀ A : List En, ∀ B f d' l', ((enVs (A ++ f :: B)).set (A.length * 3 + 1) (Str d')).set (A.length * 3 + 2) (Str l') = enVs (A ++ ⟨f.n, d', l'⟩ :: B) := by
    intro A
    induction A with
    | nil => intro B f d' l'; rfl
    | cons x r ih =>
      intro B f d' l'
      show ((Str x.n :: Str x.d :: Str x.l :: enVs (r ++ f :: B)).set ((r.length + 1) * 3 + 1) (Str d')).set ((r.length + 1) * 3 + 2) (Str l') = Str x.n :: Str x.d :: Str x.l :: enVs (r ++ ⟨f.n, d', l'⟩ :: B)
      rw [← ih B f d' l', show (r.length + 1) * 3 + 1 = r.length * 3 + 1 + 1 + 1 + 1 by omega, show (r.length + 1) * 3 + 2 = r.length * 3 + 2 + 1 + 1 + 1 by omega]
      rfl
  exact h A B f d' l'
theorem en_late (A B : List En) (f : En) (l' : List UInt8) : (enVs (A ++ f :: B)).set (A.length * 3 + 2) (Str l') = enVs (A ++ ⟨f.n, f.d, l'⟩ :: B) := by
  have h : ∀ A : List En, ∀ B f l', (enVs (A ++ f :: B)).set (A.length * 3 + 2) (Str l') = enVs (A ++ ⟨f.n, f.d, l'⟩ :: B) := by
    intro A
    induction A with
    | nil => intro B f l'; rfl
    | cons x r ih =>
      intro B f l'
      show (Str x.n :: Str x.d :: Str x.l :: enVs (r ++ f :: B)).set ((r.length + 1) * 3 + 2) (Str l') = Str x.n :: Str x.d :: Str x.l :: enVs (r ++ ⟨f.n, f.d, l'⟩ :: B)
      rw [← ih B f l', show (r.length + 1) * 3 + 2 = r.length * 3 + 2 + 1 + 1 + 1 by omega]
      rfl
  exact h A B f l'
theorem Rfm.mid {w : World} {S : List Nat} {d cap g off : Nat} {s : St} {A B : List En} {f : En} (h : Rfm w S d (some ⟨g, off, none⟩) cap s) (hE : s.E = A ++ f :: B) (d' l' : List UInt8) :
    Rfm ((w.setCell ⟨g, off + A.length * 3 + 1, none⟩ (Str d')).setCell ⟨g, off + A.length * 3 + 2, none⟩ (Str l')) S d (some ⟨g, off, none⟩) cap ⟨A ++ ⟨f.n, d', l'⟩ :: B, s.room, s.fuse, s.off⟩ ∧ Step S S w ((w.setCell ⟨g, off + A.length * 3 + 1, none⟩ (Str d')).setCell ⟨g, off + A.length * 3 + 2, none⟩ (Str l')) := by
  have hg : g ∈ S := by rw [h.hS]; simp [blks]
  have hdg : d ≠ g := fun e => h.ne (by simp [blks, e])
  have hl : s.E.length = (A ++ (⟨f.n, d', l'⟩ : En) :: B).length := by rw [hE]; simp
  have hst : Step S S w ((w.setCell ⟨g, off + A.length * 3 + 1, none⟩ (Str d')).setCell ⟨g, off + A.length * 3 + 2, none⟩ (Str l')) := ((Step.refl S w).setCell (p := ⟨g, _, none⟩) (.inl hg) _).setCell (p := ⟨g, _, none⟩) (.inl hg) _
  have hlen : A.length * 3 + 2 < s.E.length * 3 := by rw [hE]; simp; omega
  have r1 := h.row.set (j := A.length * 3 + 1) rfl (by omega) (Str d')
  have r2 := r1.set (j := A.length * 3 + 2) rfl (by omega) (Str l')
  rw [show enVs s.E = enVs (A ++ f :: B) by rw [hE], en_set] at r2
  refine ⟨⟨h.hS, ?_, ?_, h.ne⟩, hst⟩
  · have := (h.blk.far (p := ⟨g, off + A.length * 3 + 1, none⟩) hdg (Str d')).far (p := ⟨g, off + A.length * 3 + 2, none⟩) hdg (Str l')
    simp only
    rw [← hl]
    exact this
  · simp only
    rw [← hl]
    exact r2
theorem Rfm.late {w : World} {S : List Nat} {d cap g off : Nat} {s : St} {A B : List En} {f : En} (h : Rfm w S d (some ⟨g, off, none⟩) cap s) (hE : s.E = A ++ f :: B) (l' : List UInt8) :
    Rfm (w.setCell ⟨g, off + A.length * 3 + 2, none⟩ (Str l')) S d (some ⟨g, off, none⟩) cap ⟨A ++ ⟨f.n, f.d, l'⟩ :: B, s.room, s.fuse, s.off⟩ ∧ Step S S w (w.setCell ⟨g, off + A.length * 3 + 2, none⟩ (Str l')) := by
  have hg : g ∈ S := by rw [h.hS]; simp [blks]
  have hdg : d ≠ g := fun e => h.ne (by simp [blks, e])
  have hl : s.E.length = (A ++ (⟨f.n, f.d, l'⟩ : En) :: B).length := by rw [hE]; simp
  have hst : Step S S w (w.setCell ⟨g, off + A.length * 3 + 2, none⟩ (Str l')) := (Step.refl S w).setCell (p := ⟨g, _, none⟩) (.inl hg) _
  have hlen : A.length * 3 + 2 < s.E.length * 3 := by rw [hE]; simp; omega
  have r2 := h.row.set (j := A.length * 3 + 2) rfl (by omega) (Str l')
  rw [show enVs s.E = enVs (A ++ f :: B) by rw [hE], en_late] at r2
  refine ⟨⟨h.hS, ?_, ?_, h.ne⟩, hst⟩
  · have := h.blk.far (p := ⟨g, off + A.length * 3 + 2, none⟩) hdg (Str l')
    simp only
    rw [← hl]
    exact this
  · simp only
    rw [← hl]
    exact r2

theorem Tryd.info_file : (Tryd.prog.info? 77).map (fun i => (i.zero, i.size, i.bytes)) = some (some (.agg #[.string ⟨#[]⟩, .string ⟨#[]⟩, .string ⟨#[]⟩]), 3, 48) := by kernel_rfl
theorem enVs_take (A R : List En) : (enVs (A ++ R)).take (A.length * 3) = enVs A := by rw [enVs_app, List.take_left' (enVs_len A)]
theorem enVs_drop (A R : List En) : (enVs (A ++ R)).drop (A.length * 3) = enVs R := by rw [enVs_app, List.drop_left' (enVs_len A)]

/-- Who holds the struct's list: stores elsewhere leave that. -/
theorem far_cell {w : World} {d g : Nat} {v : Value} (hdg : d ≠ g) (h : w.cell? ⟨d, 0, none⟩ = some v) (j : Nat) (u : Value) : (w.setCell ⟨g, j, none⟩ u).cell? ⟨d, 0, none⟩ = some v :=
  (Step.cell ((Step.refl [g] w).setCell (p := ⟨g, j, none⟩) (.inl (by simp)) u) h (by simpa using hdg))
theorem far_lt {w : World} {g : Nat} (h : g < w.heap.size) (p : Addr) (u : Value) : g < (w.setCell p u).heap.size := by simpa [World.setCell] using h

set_option maxHeartbeats 1000000 in
theorem rsync_any (x : List UInt8) (w : World) (S : List Nat) (d : Nat) (s : St) (h : Rf w S d s) (hB : StB s) (hr : ERis s.E) : Calls Tryd.prog 30 #[.pointer (some ⟨d, 0, none⟩), Str x] w (RfP (syncS s x) S d w) := by
  have HR := Lib.hid hr
  clear hr

  obtain ⟨a, cap, h⟩ := h
  have c3 := h.blk.cell 3
  simp only [List.getElem?_toArray, List.getElem?_cons_zero, List.getElem?_cons_succ] at c3
  have hat := rat_any x w S d s ⟨a, cap, h⟩ hB
  have HF := Lib.hid hat
  have HB := Lib.hid (And.intro h hB)
  clear hat h hB
  go_enter Tryd.func30, Tryd.ntmps30
  go_wp2_with fail
  refine HF.out.mono ?_
  rintro e w1 ⟨rfl, rfl⟩
  cases ho : s.off with
  | true =>
    have HO := Lib.hid ho
    rw [ho] at c3
    clear ho
    go_wp2_with fail
    refine bodyPost_ret (results_tmp rfl _ _ _) rfl ?_
    simp only [RfP, syncS, onFile, HO.out, Bool.false_eq_true, if_false, if_true]
    exact ⟨rfl, S, ⟨a, cap, HB.out.1⟩, Step.refl _ _⟩
  | false =>
    have HO := Lib.hid ho
    rw [ho] at c3
    clear ho
    cases hg : eget s.E x with
    | none =>
      rw [atI_miss hg]
      have HG := Lib.hid hg
      clear hg
      go_wp2_with fail
      refine bodyPost_ret (results_tmp rfl _ _ _) rfl ?_
      simp only [RfP, syncS, onFile, HO.out, HG.out, Bool.false_eq_true, if_false, if_true]
      exact ⟨rfl, S, ⟨a, cap, HB.out.1⟩, Step.refl _ _⟩
    | some f =>
      obtain ⟨A, B, hE, hfn, hai, hel⟩ := atI_split hg
      rw [hai]
      have HG := Lib.hid (And.intro hg (And.intro hE (And.intro hfn hel)))
      have hAl : A.length < 1099511627776 := by
        have h1 := HB.out.2.len
        rw [hE] at h1
        simp at h1
        omega
      have hneg : decide ((A.length : Int) < 0) = false := decide_eq_false (by omega)
      clear hg hE hfn hai hel
      go_wp2_with fail
      refine (rburns_any w S d cap a s HB.out.1 HB.out.2.fuse.2).mono ?_
      rintro e w2 ⟨rfl, hb2, hs2⟩
      have hw2 : Step S S w w2 := hs2.wide (by intro k hk; simp only [List.mem_singleton] at hk; rw [hk, HB.out.1.hS]; simp) (by intro k hk; exact .inl hk)
      have H2 := Lib.hid (And.intro hb2 hw2)
      clear hb2 hs2 hw2
      cases hbo : s.burn.off with
      | true =>
        have HQ := Lib.hid hbo
        clear hbo
        go_wp2_with fail
        refine bodyPost_ret (results_tmp rfl _ _ _) rfl ?_
        simp only [RfP, syncS, onFile, HO.out, HG.out.1, HQ.out, Bool.false_eq_true, if_false, if_true]
        exact ⟨rfl, S, ⟨a, cap, H2.out.1⟩, H2.out.2⟩
      | false =>
        have HQ := Lib.hid hbo
        clear hbo
        have hAE : A.length < s.E.length := by rw [HG.out.2.1]; simp
        have hAi : (A.length : Int) < (s.E.length : Int) := by omega
        obtain ⟨g, off, hs1⟩ := (HB.out.1.row).some_of_pos (by omega)
        have hful : f.d.length + f.l.length ≤ 8388608 := by
          have := used_mem (E := s.E) (f := f) (by rw [HG.out.2.1]; simp)
          have := HB.out.2.used
          omega
        have HA : Hid (a = some ⟨g, off, none⟩) := Lib.hid hs1
        have H3 : Hid (Rfm w2 S d (some ⟨g, off, none⟩) cap s.burn) := Lib.hid (by rw [← hs1]; exact H2.out.1)
        have hr := H3.out.row.rd
        have hr2 := rd_en (E := s.E) hr HG.out.2.2.2
        clear hs1 hr
        have c0 := H3.out.blk.cell 0
        simp only [List.getElem?_toArray, List.getElem?_cons_zero, List.getElem?_cons_succ] at c0
        rw [show s.burn.E = s.E from rfl] at c0
        obtain ⟨z0, z1, z2⟩ := hr2
        have gl : g < w2.heap.size := by have := World.block_lt_of_cell? _ _ z1; simpa using this
        have y1 := (H3.out.row.cell rfl (A.length * 3 + 1) (by show _ < s.E.length * 3; omega)).2.1
        have y2 := (H3.out.row.cell rfl (A.length * 3 + 2) (by show _ < s.E.length * 3; omega)).2.1
        rw [← Nat.add_assoc] at y1 y2
        have HDG : Hid (d ≠ g) := Lib.hid (fun e => H3.out.ne (by simp [blks, e]))
        clear z0
        have hcat : f.d.length + f.l.length ≤ 9223372036854775807 := by omega
        go_upto_region 8 with fail
        have HC : Hid (w2.drew.cell? ⟨d, 0, none⟩ = some (.slice (some ⟨g, off, none⟩) s.E.length cap) ∧ g < w2.drew.heap.size) := Lib.hid ⟨c0, gl⟩
        refine wp_region_held_drew (S := fun W => Hid (W.cell? ⟨d, 0, none⟩ = some (.slice (some ⟨g, off, none⟩) s.E.length cap) ∧ g < W.heap.size)) (by kernel_rfl) (HC) (fun hHeld => ?_)
        refine wpAnyH_take (i := 0) (v := ?_) rfl (by kernel_rfl) (by kernel_rfl) (by kernel_rfl) (fun _ _ _ h => h) (Or.inl ⟨by rfl, ?_⟩) hHeld ?_
        rotate_left
        · intro w hSw
          have hSw1 := hSw
          clear hSw
          try dsimp only at hSw1
          go_simp
          try (with_reducible rfl)
        try simp only [Act.put, List.setIfInBounds_toArray, List.set_cons_zero, List.set_cons_succ, List.getElem_toArray, List.getElem_cons_zero, List.getElem_cons_succ]
        refine wpAnyH_take (i := 1) (v := ?_) rfl (by kernel_rfl) (by kernel_rfl) (by kernel_rfl) (fun _ _ _ h => h) (Or.inl ⟨by rfl, ?_⟩) hHeld ?_
        rotate_left
        · intro w hSw
          have hSw1 := hSw
          clear hSw
          try dsimp only at hSw1
          go_simp
          try (with_reducible rfl)
        try simp only [Act.put, List.setIfInBounds_toArray, List.set_cons_zero, List.set_cons_succ, List.getElem_toArray, List.getElem_cons_zero, List.getElem_cons_succ]
        refine wpAnyH_take (i := 2) (v := ?_) rfl (by kernel_rfl) (by kernel_rfl) (by kernel_rfl) (fun _ _ _ h => h) (Or.inl ⟨by rfl, ?_⟩) hHeld ?_
        rotate_left
        · intro w hSw
          have hSw1 := hSw
          clear hSw
          try dsimp only at hSw1
          go_simp
          try (with_reducible rfl)
        try simp only [Act.put, List.setIfInBounds_toArray, List.set_cons_zero, List.set_cons_succ, List.getElem_toArray, List.getElem_cons_zero, List.getElem_cons_succ]
        refine wpAnyH_take (i := 3) (v := ?_) rfl (by kernel_rfl) (by kernel_rfl) (by kernel_rfl) (fun _ _ _ h => h) (Or.inl ⟨by rfl, ?_⟩) hHeld ?_
        rotate_left
        · intro w hSw
          have hSw1 := hSw
          clear hSw
          have t0 := hSw1.out.1
          have tl := hSw1.out.2
          go_simp
          try (with_reducible rfl)
        try simp only [Act.put, List.setIfInBounds_toArray, List.set_cons_zero, List.set_cons_succ, List.getElem_toArray, List.getElem_cons_zero, List.getElem_cons_succ]
        refine wpAnyH_take (i := 4) (v := ?_) rfl (by kernel_rfl) (by kernel_rfl) (by kernel_rfl) (fun _ _ _ h => h) (Or.inl ⟨by rfl, ?_⟩) hHeld ?_
        rotate_left
        · intro w hSw
          have hSw1 := hSw
          clear hSw
          try dsimp only at hSw1
          go_simp
          try (with_reducible rfl)
        try simp only [Act.put, List.setIfInBounds_toArray, List.set_cons_zero, List.set_cons_succ, List.getElem_toArray, List.getElem_cons_zero, List.getElem_cons_succ]
        refine wpAnyH_take (i := 5) (v := ?_) rfl (by kernel_rfl) (by kernel_rfl) (by kernel_rfl) (fun _ _ _ h => h) (Or.inl ⟨by rfl, ?_⟩) hHeld ?_
        rotate_left
        · intro w hSw
          have hSw1 := hSw
          clear hSw
          try dsimp only at hSw1
          go_simp
          try (with_reducible rfl)
        try simp only [Act.put, List.setIfInBounds_toArray, List.set_cons_zero, List.set_cons_succ, List.getElem_toArray, List.getElem_cons_zero, List.getElem_cons_succ]
        refine wpAnyH_take (i := 6) (v := ?_) rfl (by kernel_rfl) (by kernel_rfl) (by kernel_rfl) (fun _ _ _ h => h) (Or.inl ⟨by rfl, ?_⟩) hHeld ?_
        rotate_left
        · intro w hSw
          have hSw1 := hSw
          clear hSw
          try dsimp only at hSw1
          go_simp
          try (with_reducible rfl)
        try simp only [Act.put, List.setIfInBounds_toArray, List.set_cons_zero, List.set_cons_succ, List.getElem_toArray, List.getElem_cons_zero, List.getElem_cons_succ]
        refine wpAnyH_take (i := 7) (v := ?_) rfl (by kernel_rfl) (by kernel_rfl) (by kernel_rfl) (fun _ _ _ h => h) (Or.inl ⟨by rfl, ?_⟩) hHeld ?_
        rotate_left
        · intro w hSw
          have hSw1 := hSw
          clear hSw
          try dsimp only at hSw1
          go_simp
          try (with_reducible rfl)
        try simp only [Act.put, List.setIfInBounds_toArray, List.set_cons_zero, List.set_cons_succ, List.getElem_toArray, List.getElem_cons_zero, List.getElem_cons_succ]
        refine wpAnyH_take (i := 8) (v := ?_) rfl (by kernel_rfl) (by kernel_rfl) (by kernel_rfl) (fun _ _ _ h => h) (Or.inl ⟨by rfl, ?_⟩) hHeld ?_
        rotate_left
        · intro w hSw
          have hSw1 := hSw
          clear hSw
          have t0 := hSw1.out.1
          have tl := hSw1.out.2
          go_simp
          try (with_reducible rfl)
        try simp only [Act.put, List.setIfInBounds_toArray, List.set_cons_zero, List.set_cons_succ, List.getElem_toArray, List.getElem_cons_zero, List.getElem_cons_succ]
        refine wpAnyH_take (i := 9) (v := ?_) rfl (by kernel_rfl) (by kernel_rfl) (by kernel_rfl) (fun _ _ _ h => h) (Or.inl ⟨by rfl, ?_⟩) hHeld ?_
        rotate_left
        · intro w hSw
          have hSw1 := hSw
          clear hSw
          try dsimp only at hSw1
          go_simp
          try (with_reducible rfl)
        try simp only [Act.put, List.setIfInBounds_toArray, List.set_cons_zero, List.set_cons_succ, List.getElem_toArray, List.getElem_cons_zero, List.getElem_cons_succ]
        refine wpAnyH_take (i := 10) (v := ?_) rfl (by kernel_rfl) (by kernel_rfl) (by kernel_rfl) (fun _ _ _ h => h) (Or.inl ⟨by rfl, ?_⟩) hHeld ?_
        rotate_left
        · intro w hSw
          have hSw1 := hSw
          clear hSw
          try dsimp only at hSw1
          go_simp
          try (with_reducible rfl)
        try simp only [Act.put, List.setIfInBounds_toArray, List.set_cons_zero, List.set_cons_succ, List.getElem_toArray, List.getElem_cons_zero, List.getElem_cons_succ]
        refine wpAnyH_take (i := 11) (v := ?_) rfl (by kernel_rfl) (by kernel_rfl) (by kernel_rfl) (fun _ _ _ h => h) (Or.inl ⟨by rfl, ?_⟩) hHeld ?_
        rotate_left
        · intro w hSw
          have hSw1 := hSw
          clear hSw
          try dsimp only at hSw1
          go_simp
          try (with_reducible rfl)
        try simp only [Act.put, List.setIfInBounds_toArray, List.set_cons_zero, List.set_cons_succ, List.getElem_toArray, List.getElem_cons_zero, List.getElem_cons_succ]
        refine wpAnyH_take (i := 12) (v := ?_) rfl (by kernel_rfl) (by kernel_rfl) (by kernel_rfl) (fun _ _ _ h => h) (Or.inl ⟨by rfl, ?_⟩) hHeld ?_
        rotate_left
        · intro w hSw
          have hSw1 := hSw
          clear hSw
          try dsimp only at hSw1
          go_simp
          try (with_reducible rfl)
        try simp only [Act.put, List.setIfInBounds_toArray, List.set_cons_zero, List.set_cons_succ, List.getElem_toArray, List.getElem_cons_zero, List.getElem_cons_succ]
        refine wpAnyH_take (i := 13) (v := ?_) rfl (by kernel_rfl) (by kernel_rfl) (by kernel_rfl) (fun _ _ _ h => h) (Or.inl ⟨by rfl, ?_⟩) hHeld ?_
        rotate_left
        · intro w hSw
          have hSw1 := hSw
          clear hSw
          have t0 := hSw1.out.1
          have tl := hSw1.out.2
          go_simp
          try (with_reducible rfl)
        try simp only [Act.put, List.setIfInBounds_toArray, List.set_cons_zero, List.set_cons_succ, List.getElem_toArray, List.getElem_cons_zero, List.getElem_cons_succ]
        refine wpAnyH_take (i := 14) (v := ?_) rfl (by kernel_rfl) (by kernel_rfl) (by kernel_rfl) (fun _ _ _ h => h) (Or.inl ⟨by rfl, ?_⟩) hHeld ?_
        rotate_left
        · intro w hSw
          have hSw1 := hSw
          clear hSw
          try dsimp only at hSw1
          go_simp
          try (with_reducible rfl)
        try simp only [Act.put, List.setIfInBounds_toArray, List.set_cons_zero, List.set_cons_succ, List.getElem_toArray, List.getElem_cons_zero, List.getElem_cons_succ]
        refine wpAnyH_take (i := 15) (v := ?_) rfl (by kernel_rfl) (by kernel_rfl) (by kernel_rfl) (fun _ _ _ h => h) (Or.inl ⟨by rfl, ?_⟩) hHeld ?_
        rotate_left
        · intro w hSw
          have hSw1 := hSw
          clear hSw
          try dsimp only at hSw1
          go_simp
          try (with_reducible rfl)
        try simp only [Act.put, List.setIfInBounds_toArray, List.set_cons_zero, List.set_cons_succ, List.getElem_toArray, List.getElem_cons_zero, List.getElem_cons_succ]
        refine wpAnyH_take (i := 16) (v := ?_) rfl (by kernel_rfl) (by kernel_rfl) (by kernel_rfl) (fun _ _ _ h => h) (Or.inl ⟨by rfl, ?_⟩) hHeld ?_
        rotate_left
        · intro w hSw
          have hSw1 := hSw
          clear hSw
          try dsimp only at hSw1
          go_simp
          try (with_reducible rfl)
        try simp only [Act.put, List.setIfInBounds_toArray, List.set_cons_zero, List.set_cons_succ, List.getElem_toArray, List.getElem_cons_zero, List.getElem_cons_succ]
        refine wpAnyH_take (i := 18) (v := ?_) rfl (by kernel_rfl) (by kernel_rfl) (by kernel_rfl) (fun _ _ _ h => h) (Or.inl ⟨by rfl, ?_⟩) hHeld ?_
        rotate_left
        · intro w hSw
          have hSw1 := hSw
          clear hSw
          try dsimp only at hSw1
          go_simp
          try (with_reducible rfl)
        try simp only [Act.put, List.setIfInBounds_toArray, List.set_cons_zero, List.set_cons_succ, List.getElem_toArray, List.getElem_cons_zero, List.getElem_cons_succ]
        refine wpAnyH_take (i := 19) (v := ?_) rfl (by kernel_rfl) (by kernel_rfl) (by kernel_rfl) (fun _ _ _ h => h) (Or.inl ⟨by rfl, ?_⟩) hHeld ?_
        rotate_left
        · intro w hSw
          have hSw1 := hSw
          clear hSw
          try dsimp only at hSw1
          go_simp
          try (with_reducible rfl)
        try simp only [Act.put, List.setIfInBounds_toArray, List.set_cons_zero, List.set_cons_succ, List.getElem_toArray, List.getElem_cons_zero, List.getElem_cons_succ]
        refine wpAnyH_take (i := 20) (v := ?_) rfl (by kernel_rfl) (by kernel_rfl) (by kernel_rfl) (fun _ _ _ h => h) (Or.inl ⟨by rfl, ?_⟩) hHeld ?_
        rotate_left
        · intro w hSw
          have hSw1 := hSw
          clear hSw
          try dsimp only at hSw1
          go_simp
          try (with_reducible rfl)
        try simp only [Act.put, List.setIfInBounds_toArray, List.set_cons_zero, List.set_cons_succ, List.getElem_toArray, List.getElem_cons_zero, List.getElem_cons_succ]
        refine wpAnyH_take (i := 21) (v := ?_) rfl (by kernel_rfl) (by kernel_rfl) (by kernel_rfl) (fun _ _ _ h => h) (Or.inl ⟨by rfl, ?_⟩) hHeld ?_
        rotate_left
        · intro w hSw
          have hSw1 := hSw
          clear hSw
          have t0 := hSw1.out.1
          have tl := hSw1.out.2
          go_simp
          try (with_reducible rfl)
        try simp only [Act.put, List.setIfInBounds_toArray, List.set_cons_zero, List.set_cons_succ, List.getElem_toArray, List.getElem_cons_zero, List.getElem_cons_succ]
        refine wpAnyH_take (i := 22) (v := ?_) rfl (by kernel_rfl) (by kernel_rfl) (by kernel_rfl) (fun _ _ _ h => h) (Or.inl ⟨by rfl, ?_⟩) hHeld ?_
        rotate_left
        · intro w hSw
          have hSw1 := hSw
          clear hSw
          try dsimp only at hSw1
          go_simp
          try (with_reducible rfl)
        try simp only [Act.put, List.setIfInBounds_toArray, List.set_cons_zero, List.set_cons_succ, List.getElem_toArray, List.getElem_cons_zero, List.getElem_cons_succ]
        refine wpAnyH_take (i := 23) (v := ?_) rfl (by kernel_rfl) (by kernel_rfl) (by kernel_rfl) (fun _ _ _ h => h) (Or.inl ⟨by rfl, ?_⟩) hHeld ?_
        rotate_left
        · intro w hSw
          have hSw1 := hSw
          clear hSw
          try dsimp only at hSw1
          go_simp
          try (with_reducible rfl)
        try simp only [Act.put, List.setIfInBounds_toArray, List.set_cons_zero, List.set_cons_succ, List.getElem_toArray, List.getElem_cons_zero, List.getElem_cons_succ]
        refine wpAnyH_take (i := 24) (v := ?_) rfl (by kernel_rfl) (by kernel_rfl) (by kernel_rfl) (fun _ _ _ h => h) (Or.inl ⟨by rfl, ?_⟩) hHeld ?_
        rotate_left
        · intro w hSw
          have hSw1 := hSw
          clear hSw
          try dsimp only at hSw1
          go_simp
          try (with_reducible rfl)
        try simp only [Act.put, List.setIfInBounds_toArray, List.set_cons_zero, List.set_cons_succ, List.getElem_toArray, List.getElem_cons_zero, List.getElem_cons_succ]
        refine wpAnyH_ready (rs := [17, 25]) (by kernel_rfl) (by simp) ?_
        refine AllReadyH.cons rfl (fun K hK => ?_) (AllReadyH.cons rfl (fun K hK => ?_) (AllReadyH.nil))
        · skip
          go_simp
          skip
          go_wp2_with fail
          refine hK.out _ _ (hHeld) (fun hHeld2 => ?_)
          clear hK K hHeld
          try simp only [Act.put, List.setIfInBounds_toArray, List.set_cons_zero, List.set_cons_succ, List.getElem_toArray, List.getElem_cons_zero, List.getElem_cons_succ]
          refine wpAnyH_ready (rs := [25]) (by kernel_rfl) (by simp) ?_
          refine AllReadyH.cons rfl (fun K hK => ?_) AllReadyH.nil
          go_simp
          skip
          go_wp2_with fail
          refine hK.out _ _ (hHeld2) (fun hHeld3 => ?_)
          clear hK K hHeld2
          try simp only [Act.put, List.setIfInBounds_toArray, List.set_cons_zero, List.set_cons_succ, List.getElem_toArray, List.getElem_cons_zero, List.getElem_cons_succ]
          refine wpAnyH_take (i := 26) (v := ?_) rfl (by kernel_rfl) (by kernel_rfl) (by kernel_rfl) (fun _ _ _ h => h) (Or.inl ⟨by rfl, ?_⟩) hHeld3 ?_
          rotate_left
          · intro w hSw
            have hSw1 := hSw
            clear hSw
            try dsimp only at hSw1
            go_simp
            try (with_reducible rfl)
          try simp only [Act.put, List.setIfInBounds_toArray, List.set_cons_zero, List.set_cons_succ, List.getElem_toArray, List.getElem_cons_zero, List.getElem_cons_succ]
          refine wpAnyH_take (i := 27) (v := ?_) rfl (by kernel_rfl) (by kernel_rfl) (by kernel_rfl) (fun _ _ _ h => h) (Or.inl ⟨by rfl, ?_⟩) hHeld3 ?_
          rotate_left
          · intro w hSw
            have hSw1 := hSw
            clear hSw
            try dsimp only at hSw1
            go_simp
            try (with_reducible rfl)
          try simp only [Act.put, List.setIfInBounds_toArray, List.set_cons_zero, List.set_cons_succ, List.getElem_toArray, List.getElem_cons_zero, List.getElem_cons_succ]
          refine wpAnyH_take (i := 28) (v := ?_) rfl (by kernel_rfl) (by kernel_rfl) (by kernel_rfl) (fun _ _ _ h => h) (Or.inl ⟨by rfl, ?_⟩) hHeld3 ?_
          rotate_left
          · intro w hSw
            have hSw1 := hSw
            clear hSw
            try dsimp only at hSw1
            go_simp
            try (with_reducible rfl)
          try simp only [Act.put, List.setIfInBounds_toArray, List.set_cons_zero, List.set_cons_succ, List.getElem_toArray, List.getElem_cons_zero, List.getElem_cons_succ]
          refine wpAnyH_ready (rs := [29]) (by kernel_rfl) (by simp) ?_
          refine AllReadyH.cons rfl (fun K hK => ?_) AllReadyH.nil
          go_simp
          skip
          go_wp2_with fail
          refine hK.out _ _ (Lib.hid ⟨far_cell HDG.out hHeld3.out.1 _ _, far_lt hHeld3.out.2 _ _⟩) (fun hHeld4 => ?_)
          clear hK K hHeld3
          try simp only [Act.put, List.setIfInBounds_toArray, List.set_cons_zero, List.set_cons_succ, List.getElem_toArray, List.getElem_cons_zero, List.getElem_cons_succ]
          refine wpAnyH_take (i := 30) (v := ?_) rfl (by kernel_rfl) (by kernel_rfl) (by kernel_rfl) (fun _ _ _ h => h) (Or.inl ⟨by rfl, ?_⟩) hHeld4 ?_
          rotate_left
          · intro w hSw
            have hSw1 := hSw
            clear hSw
            try dsimp only at hSw1
            go_simp
            try (with_reducible rfl)
          try simp only [Act.put, List.setIfInBounds_toArray, List.set_cons_zero, List.set_cons_succ, List.getElem_toArray, List.getElem_cons_zero, List.getElem_cons_succ]
          refine wpAnyH_take (i := 31) (v := ?_) rfl (by kernel_rfl) (by kernel_rfl) (by kernel_rfl) (fun _ _ _ h => h) (Or.inl ⟨by rfl, ?_⟩) hHeld4 ?_
          rotate_left
          · intro w hSw
            have hSw1 := hSw
            clear hSw
            try dsimp only at hSw1
            go_simp
            try (with_reducible rfl)
          try simp only [Act.put, List.setIfInBounds_toArray, List.set_cons_zero, List.set_cons_succ, List.getElem_toArray, List.getElem_cons_zero, List.getElem_cons_succ]
          refine wpAnyH_ready (rs := [32]) (by kernel_rfl) (by simp) ?_
          refine AllReadyH.cons rfl (fun K hK => ?_) AllReadyH.nil
          go_simp
          skip
          go_wp2_with fail
          refine hK.out _ _ (Lib.hid ⟨far_cell HDG.out hHeld4.out.1 _ _, far_lt hHeld4.out.2 _ _⟩) (fun hHeld5 => ?_)
          clear hK K hHeld4
          try simp only [Act.put, List.setIfInBounds_toArray, List.set_cons_zero, List.set_cons_succ, List.getElem_toArray, List.getElem_cons_zero, List.getElem_cons_succ]
          refine wpAnyH_done (by kernel_rfl) ?_ _
          go_wp2_with fail
          obtain ⟨hfin, hst⟩ := H3.out.mid HG.out.2.1 (f.d ++ f.l) []
          refine bodyPost_ret (results_tmp rfl _ _ _) rfl ?_
          simp only [RfP, syncS, onFile, HO.out, HG.out.1, HQ.out, Bool.false_eq_true, if_false]
          refine ⟨rfl, S, ⟨some ⟨g, off, none⟩, cap, ?_⟩, H2.out.2.trans hst.drew⟩
          rw [HG.out.2.1, ← HG.out.2.2.1, emod_mid (by rw [← HG.out.2.1]; exact HR.out)]
          have := hfin.step ((Step.refl [] _).drew) (by simp)
          rw [← HQ.out]
          exact this
        · skip
          go_simp
          skip
          go_wp2_with fail
          refine hK.out _ _ (hHeld) (fun hHeld2 => ?_)
          clear hK K hHeld
          try simp only [Act.put, List.setIfInBounds_toArray, List.set_cons_zero, List.set_cons_succ, List.getElem_toArray, List.getElem_cons_zero, List.getElem_cons_succ]
          refine wpAnyH_ready (rs := [17]) (by kernel_rfl) (by simp) ?_
          refine AllReadyH.cons rfl (fun K hK => ?_) AllReadyH.nil
          go_simp
          skip
          go_wp2_with fail
          refine hK.out _ _ (hHeld2) (fun hHeld3 => ?_)
          clear hK K hHeld2
          try simp only [Act.put, List.setIfInBounds_toArray, List.set_cons_zero, List.set_cons_succ, List.getElem_toArray, List.getElem_cons_zero, List.getElem_cons_succ]
          refine wpAnyH_take (i := 26) (v := ?_) rfl (by kernel_rfl) (by kernel_rfl) (by kernel_rfl) (fun _ _ _ h => h) (Or.inl ⟨by rfl, ?_⟩) hHeld3 ?_
          rotate_left
          · intro w hSw
            have hSw1 := hSw
            clear hSw
            try dsimp only at hSw1
            go_simp
            try (with_reducible rfl)
          try simp only [Act.put, List.setIfInBounds_toArray, List.set_cons_zero, List.set_cons_succ, List.getElem_toArray, List.getElem_cons_zero, List.getElem_cons_succ]
          refine wpAnyH_take (i := 27) (v := ?_) rfl (by kernel_rfl) (by kernel_rfl) (by kernel_rfl) (fun _ _ _ h => h) (Or.inl ⟨by rfl, ?_⟩) hHeld3 ?_
          rotate_left
          · intro w hSw
            have hSw1 := hSw
            clear hSw
            try dsimp only at hSw1
            go_simp
            try (with_reducible rfl)
          try simp only [Act.put, List.setIfInBounds_toArray, List.set_cons_zero, List.set_cons_succ, List.getElem_toArray, List.getElem_cons_zero, List.getElem_cons_succ]
          refine wpAnyH_take (i := 28) (v := ?_) rfl (by kernel_rfl) (by kernel_rfl) (by kernel_rfl) (fun _ _ _ h => h) (Or.inl ⟨by rfl, ?_⟩) hHeld3 ?_
          rotate_left
          · intro w hSw
            have hSw1 := hSw
            clear hSw
            try dsimp only at hSw1
            go_simp
            try (with_reducible rfl)
          try simp only [Act.put, List.setIfInBounds_toArray, List.set_cons_zero, List.set_cons_succ, List.getElem_toArray, List.getElem_cons_zero, List.getElem_cons_succ]
          refine wpAnyH_ready (rs := [29]) (by kernel_rfl) (by simp) ?_
          refine AllReadyH.cons rfl (fun K hK => ?_) AllReadyH.nil
          go_simp
          skip
          go_wp2_with fail
          refine hK.out _ _ (Lib.hid ⟨far_cell HDG.out hHeld3.out.1 _ _, far_lt hHeld3.out.2 _ _⟩) (fun hHeld4 => ?_)
          clear hK K hHeld3
          try simp only [Act.put, List.setIfInBounds_toArray, List.set_cons_zero, List.set_cons_succ, List.getElem_toArray, List.getElem_cons_zero, List.getElem_cons_succ]
          refine wpAnyH_take (i := 30) (v := ?_) rfl (by kernel_rfl) (by kernel_rfl) (by kernel_rfl) (fun _ _ _ h => h) (Or.inl ⟨by rfl, ?_⟩) hHeld4 ?_
          rotate_left
          · intro w hSw
            have hSw1 := hSw
            clear hSw
            try dsimp only at hSw1
            go_simp
            try (with_reducible rfl)
          try simp only [Act.put, List.setIfInBounds_toArray, List.set_cons_zero, List.set_cons_succ, List.getElem_toArray, List.getElem_cons_zero, List.getElem_cons_succ]
          refine wpAnyH_take (i := 31) (v := ?_) rfl (by kernel_rfl) (by kernel_rfl) (by kernel_rfl) (fun _ _ _ h => h) (Or.inl ⟨by rfl, ?_⟩) hHeld4 ?_
          rotate_left
          · intro w hSw
            have hSw1 := hSw
            clear hSw
            try dsimp only at hSw1
            go_simp
            try (with_reducible rfl)
          try simp only [Act.put, List.setIfInBounds_toArray, List.set_cons_zero, List.set_cons_succ, List.getElem_toArray, List.getElem_cons_zero, List.getElem_cons_succ]
          refine wpAnyH_ready (rs := [32]) (by kernel_rfl) (by simp) ?_
          refine AllReadyH.cons rfl (fun K hK => ?_) AllReadyH.nil
          go_simp
          skip
          go_wp2_with fail
          refine hK.out _ _ (Lib.hid ⟨far_cell HDG.out hHeld4.out.1 _ _, far_lt hHeld4.out.2 _ _⟩) (fun hHeld5 => ?_)
          clear hK K hHeld4
          try simp only [Act.put, List.setIfInBounds_toArray, List.set_cons_zero, List.set_cons_succ, List.getElem_toArray, List.getElem_cons_zero, List.getElem_cons_succ]
          refine wpAnyH_done (by kernel_rfl) ?_ _
          go_wp2_with fail
          obtain ⟨hfin, hst⟩ := H3.out.mid HG.out.2.1 (f.d ++ f.l) []
          refine bodyPost_ret (results_tmp rfl _ _ _) rfl ?_
          simp only [RfP, syncS, onFile, HO.out, HG.out.1, HQ.out, Bool.false_eq_true, if_false]
          refine ⟨rfl, S, ⟨some ⟨g, off, none⟩, cap, ?_⟩, H2.out.2.trans hst.drew⟩
          rw [HG.out.2.1, ← HG.out.2.2.1, emod_mid (by rw [← HG.out.2.1]; exact HR.out)]
          have := hfin.step ((Step.refl [] _).drew) (by simp)
          rw [← HQ.out]
          exact this

set_option maxHeartbeats 1000000 in
theorem rcut_any (x : List UInt8) (k : Int) (w : World) (S : List Nat) (d : Nat) (s : St) (h : Rf w S d s) (hB : StB s) (hr : ERis s.E) : Calls Tryd.prog 31 #[.pointer (some ⟨d, 0, none⟩), Str x, .int .i64 k] w (RfP (cutS s x k) S d w) := by
  have HR := Lib.hid hr
  clear hr

  obtain ⟨a, cap, h⟩ := h
  have c3 := h.blk.cell 3
  simp only [List.getElem?_toArray, List.getElem?_cons_zero, List.getElem?_cons_succ] at c3
  have hat := rat_any x w S d s ⟨a, cap, h⟩ hB
  have HF := Lib.hid hat
  have HB := Lib.hid (And.intro h hB)
  clear hat h hB
  go_enter Tryd.func31, Tryd.ntmps31
  go_wp2_with fail
  refine HF.out.mono ?_
  rintro e w1 ⟨rfl, rfl⟩
  cases ho : s.off with
  | true =>
    have HO := Lib.hid ho
    rw [ho] at c3
    clear ho
    go_wp2_with fail
    refine bodyPost_ret (results_tmp rfl _ _ _) rfl ?_
    simp only [RfP, cutS, HO.out, Bool.false_eq_true, if_false, if_true]
    exact ⟨rfl, S, ⟨a, cap, HB.out.1⟩, Step.refl _ _⟩
  | false =>
    have HO := Lib.hid ho
    rw [ho] at c3
    clear ho
    cases hg : eget s.E x with
    | none =>
      rw [atI_miss hg]
      have HG := Lib.hid hg
      clear hg
      go_wp2_with fail
      refine bodyPost_ret (results_tmp rfl _ _ _) rfl ?_
      simp only [RfP, cutS, HO.out, HG.out, Bool.false_eq_true, if_false, if_true]
      exact ⟨rfl, S, ⟨a, cap, HB.out.1⟩, Step.refl _ _⟩
    | some f =>
      obtain ⟨A, B, hE, hfn, hai, hel⟩ := atI_split hg
      rw [hai]
      have HG := Lib.hid (And.intro hg (And.intro hE (And.intro hfn hel)))
      have hAl : A.length < 1099511627776 := by
        have h1 := HB.out.2.len
        rw [hE] at h1
        simp at h1
        omega
      have hneg : decide ((A.length : Int) < 0) = false := decide_eq_false (by omega)
      clear hg hE hfn hai hel
      have hAE : A.length < s.E.length := by rw [HG.out.2.1]; simp
      have hAi : (A.length : Int) < (s.E.length : Int) := by omega
      obtain ⟨g, off, hs1⟩ := (HB.out.1.row).some_of_pos (by omega)
      have hr := HB.out.1.row.rd
      rw [hs1] at hr
      obtain ⟨z0, z1, z2⟩ := rd_en hr HG.out.2.2.2
      have gl : g < w.heap.size := by have := World.block_lt_of_cell? _ _ z1; simpa using this
      have c0 := HB.out.1.blk.cell 0
      simp only [List.getElem?_toArray, List.getElem?_cons_zero, List.getElem?_cons_succ] at c0
      have hful : f.d.length + f.l.length ≤ 8388608 := by
        have := used_mem (E := s.E) (f := f) (by rw [HG.out.2.1]; simp)
        have := HB.out.2.used
        omega
      have hcat : f.d.length + f.l.length ≤ 9223372036854775807 := by omega
      rw [hs1] at c0
      have HHS := Lib.hid hs1
      clear z0 hr hs1
      go_upto_region 6 with fail
      go_quiet (fail)
      have H0 : Hid (Rfm (w.drewN nq) S d a cap s ∧ Step [] [] w (w.drewN nq)) := Lib.hid ⟨HB.out.1.step ((Step.refl [] w).drewN nq) (by simp), (Step.refl [] w).drewN nq⟩
      obtain ⟨W0, hW0⟩ : ∃ W0, W0 = w.drewN nq := ⟨_, rfl⟩
      rw [← hW0] at H0 ⊢
      clear hW0 z1 z2 gl c0 hcat c3
      obtain ⟨al, hal⟩ : ∃ al, al = f.d ++ f.l := ⟨_, rfl⟩
      have hall : al.length = f.d.length + f.l.length := by rw [hal, List.length_append]
      rw [← hal]
      have HAL := Lib.hid hal
      have HLL := Lib.hid hall
      clear hal hall
      by_cases hk0 : k < 0
      · have hkd : decide (k < 0) = true := decide_eq_true hk0
        have HK : Hid (k < 0 ∨ ((f.d.length + f.l.length : Nat) : Int) < k) := Lib.hid (.inl hk0)
        clear hk0
        go_wp2_with fail
        refine bodyPost_ret (results_tmp rfl _ _ _) rfl ?_
        simp only [RfP, cutS, HO.out, HG.out.1, Bool.false_eq_true, if_false]
        rw [if_pos HK.out]
        exact ⟨rfl, S, ⟨a, cap, H0.out.1⟩, H0.out.2.keep S⟩
      obtain ⟨j, rfl⟩ : ∃ j : Nat, k = j := ⟨k.toNat, by omega⟩
      have hkd : decide ((j : Int) < 0) = false := decide_eq_false hk0
      by_cases hk1 : al.length < j
      · have hkd1 : decide (al.length < j) = true := decide_eq_true hk1
        have hkd2 : decide ((al.length : Int) < (j : Int)) = true := decide_eq_true (by omega)
        have HK : Hid ((j : Int) < 0 ∨ ((f.d.length + f.l.length : Nat) : Int) < (j : Int)) := Lib.hid (.inr (by have := HLL.out; omega))
        clear hk1 hk0
        go_wp2_with fail
        refine bodyPost_ret (results_tmp rfl _ _ _) rfl ?_
        simp only [RfP, cutS, HO.out, HG.out.1, Bool.false_eq_true, if_false]
        rw [if_pos HK.out]
        exact ⟨rfl, S, ⟨a, cap, H0.out.1⟩, H0.out.2.keep S⟩
      have hkd1 : decide (al.length < j) = false := decide_eq_false hk1
      have hkd2 : decide ((al.length : Int) < (j : Int)) = false := decide_eq_false (by omega)
      have HK : Hid (¬ ((j : Int) < 0 ∨ ((f.d.length + f.l.length : Nat) : Int) < (j : Int))) := Lib.hid (by have := HLL.out; omega)
      have HJ : Hid (j ≤ al.length) := Lib.hid (by omega)
      clear hk1 hk0
      go_wp2_with fail
      refine (rburns_any W0 S d cap a s H0.out.1 HB.out.2.fuse.2).mono ?_
      rintro e w2 ⟨rfl, hb2, hs2⟩
      have hw2 : Step S S w w2 := (H0.out.2.keep S).trans (hs2.wide (by intro k hk; simp only [List.mem_singleton] at hk; rw [hk, HB.out.1.hS]; simp) (by intro k hk; exact .inl hk))
      have H2 := Lib.hid (And.intro hb2 hw2)
      clear hb2 hs2 hw2
      cases hbo : s.burn.off with
      | true =>
        have HQ := Lib.hid hbo
        clear hbo
        go_wp2_with fail
        refine bodyPost_ret (results_tmp rfl _ _ _) rfl ?_
        simp only [RfP, cutS, HO.out, HG.out.1, Bool.false_eq_true, if_false]
        rw [if_neg HK.out, if_pos HQ.out]
        exact ⟨rfl, S, ⟨a, cap, H2.out.1⟩, H2.out.2⟩
      | false =>
        have HQ := Lib.hid hbo
        clear hbo
        have hs1 := HHS.out
        have H3 : Hid (Rfm w2 S d (some ⟨g, off, none⟩) cap s.burn) := Lib.hid (by rw [← hs1]; exact H2.out.1)
        have hr := H3.out.row.rd
        have hr2 := rd_en (E := s.E) hr HG.out.2.2.2
        clear hs1 hr
        have c0 := H3.out.blk.cell 0
        simp only [List.getElem?_toArray, List.getElem?_cons_zero, List.getElem?_cons_succ] at c0
        rw [show s.burn.E = s.E from rfl] at c0
        obtain ⟨z0, z1, z2⟩ := hr2
        have gl : g < w2.heap.size := by have := World.block_lt_of_cell? _ _ z1; simpa using this
        have y1 := (H3.out.row.cell rfl (A.length * 3 + 1) (by show _ < s.E.length * 3; omega)).2.1
        have y2 := (H3.out.row.cell rfl (A.length * 3 + 2) (by show _ < s.E.length * 3; omega)).2.1
        rw [← Nat.add_assoc] at y1 y2
        have HDG : Hid (d ≠ g) := Lib.hid (fun e => H3.out.ne (by simp [blks, e]))
        clear z0
        have hjl := HJ.out
        have hji : (j : Int) ≤ (al.length : Int) := by omega
        by_cases hjd : j ≤ f.d.length
        · have hmin : min (j : Int) (f.d.length : Int) = (j : Int) := by omega
          have HM := Lib.hid hjd
          clear hjd
          go_upto_region 12 with fail
          have HC : Hid (w2.drew.cell? ⟨d, 0, none⟩ = some (.slice (some ⟨g, off, none⟩) s.E.length cap) ∧ g < w2.drew.heap.size) := Lib.hid ⟨c0, gl⟩
          refine wp_region_held_drew (S := fun W => Hid (W.cell? ⟨d, 0, none⟩ = some (.slice (some ⟨g, off, none⟩) s.E.length cap) ∧ g < W.heap.size)) (by kernel_rfl) (HC) (fun hHeld => ?_)
          refine wpAnyH_take (i := 0) (v := ?_) rfl (by kernel_rfl) (by kernel_rfl) (by kernel_rfl) (fun _ _ _ h => h) (Or.inl ⟨by rfl, ?_⟩) hHeld ?_
          rotate_left
          · intro w hSw
            have hSw1 := hSw
            clear hSw
            try dsimp only at hSw1
            go_simp
            try (with_reducible rfl)
          try simp only [Act.put, List.setIfInBounds_toArray, List.set_cons_zero, List.set_cons_succ, List.getElem_toArray, List.getElem_cons_zero, List.getElem_cons_succ]
          refine wpAnyH_take (i := 1) (v := ?_) rfl (by kernel_rfl) (by kernel_rfl) (by kernel_rfl) (fun _ _ _ h => h) (Or.inl ⟨by rfl, ?_⟩) hHeld ?_
          rotate_left
          · intro w hSw
            have hSw1 := hSw
            clear hSw
            try dsimp only at hSw1
            go_simp
            try (with_reducible rfl)
          try simp only [Act.put, List.setIfInBounds_toArray, List.set_cons_zero, List.set_cons_succ, List.getElem_toArray, List.getElem_cons_zero, List.getElem_cons_succ]
          refine wpAnyH_take (i := 2) (v := ?_) rfl (by kernel_rfl) (by kernel_rfl) (by kernel_rfl) (fun _ _ _ h => h) (Or.inl ⟨by rfl, ?_⟩) hHeld ?_
          rotate_left
          · intro w hSw
            have hSw1 := hSw
            clear hSw
            try dsimp only at hSw1
            go_simp
            try (with_reducible rfl)
          try simp only [Act.put, List.setIfInBounds_toArray, List.set_cons_zero, List.set_cons_succ, List.getElem_toArray, List.getElem_cons_zero, List.getElem_cons_succ]
          refine wpAnyH_take (i := 3) (v := ?_) rfl (by kernel_rfl) (by kernel_rfl) (by kernel_rfl) (fun _ _ _ h => h) (Or.inl ⟨by rfl, ?_⟩) hHeld ?_
          rotate_left
          · intro w hSw
            have hSw1 := hSw
            clear hSw
            have t0 := hSw1.out.1
            have tl := hSw1.out.2
            go_simp
            try (with_reducible rfl)
          try simp only [Act.put, List.setIfInBounds_toArray, List.set_cons_zero, List.set_cons_succ, List.getElem_toArray, List.getElem_cons_zero, List.getElem_cons_succ]
          refine wpAnyH_take (i := 4) (v := ?_) rfl (by kernel_rfl) (by kernel_rfl) (by kernel_rfl) (fun _ _ _ h => h) (Or.inl ⟨by rfl, ?_⟩) hHeld ?_
          rotate_left
          · intro w hSw
            have hSw1 := hSw
            clear hSw
            try dsimp only at hSw1
            go_simp
            try (with_reducible rfl)
          try simp only [Act.put, List.setIfInBounds_toArray, List.set_cons_zero, List.set_cons_succ, List.getElem_toArray, List.getElem_cons_zero, List.getElem_cons_succ]
          refine wpAnyH_take (i := 5) (v := ?_) rfl (by kernel_rfl) (by kernel_rfl) (by kernel_rfl) (fun _ _ _ h => h) (Or.inl ⟨by rfl, ?_⟩) hHeld ?_
          rotate_left
          · intro w hSw
            have hSw1 := hSw
            clear hSw
            try dsimp only at hSw1
            go_simp
            try (with_reducible rfl)
          try simp only [Act.put, List.setIfInBounds_toArray, List.set_cons_zero, List.set_cons_succ, List.getElem_toArray, List.getElem_cons_zero, List.getElem_cons_succ]
          refine wpAnyH_take (i := 6) (v := ?_) rfl (by kernel_rfl) (by kernel_rfl) (by kernel_rfl) (fun _ _ _ h => h) (Or.inl ⟨by rfl, ?_⟩) hHeld ?_
          rotate_left
          · intro w hSw
            have hSw1 := hSw
            clear hSw
            try dsimp only at hSw1
            go_simp
            try (with_reducible rfl)
          try simp only [Act.put, List.setIfInBounds_toArray, List.set_cons_zero, List.set_cons_succ, List.getElem_toArray, List.getElem_cons_zero, List.getElem_cons_succ]
          refine wpAnyH_take (i := 7) (v := ?_) rfl (by kernel_rfl) (by kernel_rfl) (by kernel_rfl) (fun _ _ _ h => h) (Or.inl ⟨by rfl, ?_⟩) hHeld ?_
          rotate_left
          · intro w hSw
            have hSw1 := hSw
            clear hSw
            try dsimp only at hSw1
            go_simp
            try (with_reducible rfl)
          try simp only [Act.put, List.setIfInBounds_toArray, List.set_cons_zero, List.set_cons_succ, List.getElem_toArray, List.getElem_cons_zero, List.getElem_cons_succ]
          refine wpAnyH_take (i := 8) (v := ?_) rfl (by kernel_rfl) (by kernel_rfl) (by kernel_rfl) (fun _ _ _ h => h) (Or.inl ⟨by rfl, ?_⟩) hHeld ?_
          rotate_left
          · intro w hSw
            have hSw1 := hSw
            clear hSw
            have t0 := hSw1.out.1
            have tl := hSw1.out.2
            go_simp
            try (with_reducible rfl)
          try simp only [Act.put, List.setIfInBounds_toArray, List.set_cons_zero, List.set_cons_succ, List.getElem_toArray, List.getElem_cons_zero, List.getElem_cons_succ]
          refine wpAnyH_take (i := 9) (v := ?_) rfl (by kernel_rfl) (by kernel_rfl) (by kernel_rfl) (fun _ _ _ h => h) (Or.inl ⟨by rfl, ?_⟩) hHeld ?_
          rotate_left
          · intro w hSw
            have hSw1 := hSw
            clear hSw
            try dsimp only at hSw1
            go_simp
            try (with_reducible rfl)
          try simp only [Act.put, List.setIfInBounds_toArray, List.set_cons_zero, List.set_cons_succ, List.getElem_toArray, List.getElem_cons_zero, List.getElem_cons_succ]
          refine wpAnyH_take (i := 10) (v := ?_) rfl (by kernel_rfl) (by kernel_rfl) (by kernel_rfl) (fun _ _ _ h => h) (Or.inl ⟨by rfl, ?_⟩) hHeld ?_
          rotate_left
          · intro w hSw
            have hSw1 := hSw
            clear hSw
            try dsimp only at hSw1
            go_simp
            try (with_reducible rfl)
          try simp only [Act.put, List.setIfInBounds_toArray, List.set_cons_zero, List.set_cons_succ, List.getElem_toArray, List.getElem_cons_zero, List.getElem_cons_succ]
          refine wpAnyH_take (i := 11) (v := ?_) rfl (by kernel_rfl) (by kernel_rfl) (by kernel_rfl) (fun _ _ _ h => h) (Or.inl ⟨by rfl, ?_⟩) hHeld ?_
          rotate_left
          · intro w hSw
            have hSw1 := hSw
            clear hSw
            try dsimp only at hSw1
            go_simp
            try (with_reducible rfl)
          try simp only [Act.put, List.setIfInBounds_toArray, List.set_cons_zero, List.set_cons_succ, List.getElem_toArray, List.getElem_cons_zero, List.getElem_cons_succ]
          refine wpAnyH_take (i := 12) (v := ?_) rfl (by kernel_rfl) (by kernel_rfl) (by kernel_rfl) (fun _ _ _ h => h) (Or.inl ⟨by rfl, ?_⟩) hHeld ?_
          rotate_left
          · intro w hSw
            have hSw1 := hSw
            clear hSw
            try dsimp only at hSw1
            go_simp
            try (with_reducible rfl)
          try simp only [Act.put, List.setIfInBounds_toArray, List.set_cons_zero, List.set_cons_succ, List.getElem_toArray, List.getElem_cons_zero, List.getElem_cons_succ]
          refine wpAnyH_take (i := 13) (v := ?_) rfl (by kernel_rfl) (by kernel_rfl) (by kernel_rfl) (fun _ _ _ h => h) (Or.inl ⟨by rfl, ?_⟩) hHeld ?_
          rotate_left
          · intro w hSw
            have hSw1 := hSw
            clear hSw
            try dsimp only at hSw1
            go_simp
            try (with_reducible rfl)
          try simp only [Act.put, List.setIfInBounds_toArray, List.set_cons_zero, List.set_cons_succ, List.getElem_toArray, List.getElem_cons_zero, List.getElem_cons_succ]
          refine wpAnyH_take (i := 14) (v := ?_) rfl (by kernel_rfl) (by kernel_rfl) (by kernel_rfl) (fun _ _ _ h => h) (Or.inl ⟨by rfl, ?_⟩) hHeld ?_
          rotate_left
          · intro w hSw
            have hSw1 := hSw
            clear hSw
            try dsimp only at hSw1
            go_simp
            try (with_reducible rfl)
          try simp only [Act.put, List.setIfInBounds_toArray, List.set_cons_zero, List.set_cons_succ, List.getElem_toArray, List.getElem_cons_zero, List.getElem_cons_succ]
          refine wpAnyH_take (i := 15) (v := ?_) rfl (by kernel_rfl) (by kernel_rfl) (by kernel_rfl) (fun _ _ _ h => h) (Or.inl ⟨by rfl, ?_⟩) hHeld ?_
          rotate_left
          · intro w hSw
            have hSw1 := hSw
            clear hSw
            try dsimp only at hSw1
            go_simp
            try (with_reducible rfl)
          try simp only [Act.put, List.setIfInBounds_toArray, List.set_cons_zero, List.set_cons_succ, List.getElem_toArray, List.getElem_cons_zero, List.getElem_cons_succ]
          refine wpAnyH_take (i := 16) (v := ?_) rfl (by kernel_rfl) (by kernel_rfl) (by kernel_rfl) (fun _ _ _ h => h) (Or.inl ⟨by rfl, ?_⟩) hHeld ?_
          rotate_left
          · intro w hSw
            have hSw1 := hSw
            clear hSw
            try dsimp only at hSw1
            go_simp
            try (with_reducible rfl)
          try simp only [Act.put, List.setIfInBounds_toArray, List.set_cons_zero, List.set_cons_succ, List.getElem_toArray, List.getElem_cons_zero, List.getElem_cons_succ]
          refine wpAnyH_take (i := 17) (v := ?_) rfl (by kernel_rfl) (by kernel_rfl) (by kernel_rfl) (fun _ _ _ h => h) (Or.inl ⟨by rfl, ?_⟩) hHeld ?_
          rotate_left
          · intro w hSw
            have hSw1 := hSw
            clear hSw
            try dsimp only at hSw1
            go_simp
            try (with_reducible rfl)
          try simp only [Act.put, List.setIfInBounds_toArray, List.set_cons_zero, List.set_cons_succ, List.getElem_toArray, List.getElem_cons_zero, List.getElem_cons_succ]
          refine wpAnyH_take (i := 18) (v := ?_) rfl (by kernel_rfl) (by kernel_rfl) (by kernel_rfl) (fun _ _ _ h => h) (Or.inl ⟨by rfl, ?_⟩) hHeld ?_
          rotate_left
          · intro w hSw
            have hSw1 := hSw
            clear hSw
            try dsimp only at hSw1
            go_simp
            try (with_reducible rfl)
          try simp only [Act.put, List.setIfInBounds_toArray, List.set_cons_zero, List.set_cons_succ, List.getElem_toArray, List.getElem_cons_zero, List.getElem_cons_succ]
          refine wpAnyH_ready (rs := [19]) (by kernel_rfl) (by simp) ?_
          refine AllReadyH.cons rfl (fun K hK => ?_) AllReadyH.nil
          go_simp
          skip
          go_wp2_with fail
          refine hK.out _ _ (Lib.hid ⟨far_cell HDG.out hHeld.out.1 _ _, far_lt hHeld.out.2 _ _⟩) (fun hHeld2 => ?_)
          clear hK K hHeld
          try simp only [Act.put, List.setIfInBounds_toArray, List.set_cons_zero, List.set_cons_succ, List.getElem_toArray, List.getElem_cons_zero, List.getElem_cons_succ]
          refine wpAnyH_take (i := 20) (v := ?_) rfl (by kernel_rfl) (by kernel_rfl) (by kernel_rfl) (fun _ _ _ h => h) (Or.inl ⟨by rfl, ?_⟩) hHeld2 ?_
          rotate_left
          · intro w hSw
            have hSw1 := hSw
            clear hSw
            try dsimp only at hSw1
            go_simp
            try (with_reducible rfl)
          try simp only [Act.put, List.setIfInBounds_toArray, List.set_cons_zero, List.set_cons_succ, List.getElem_toArray, List.getElem_cons_zero, List.getElem_cons_succ]
          refine wpAnyH_take (i := 21) (v := ?_) rfl (by kernel_rfl) (by kernel_rfl) (by kernel_rfl) (fun _ _ _ h => h) (Or.inl ⟨by rfl, ?_⟩) hHeld2 ?_
          rotate_left
          · intro w hSw
            have hSw1 := hSw
            clear hSw
            try dsimp only at hSw1
            go_simp
            try (with_reducible rfl)
          try simp only [Act.put, List.setIfInBounds_toArray, List.set_cons_zero, List.set_cons_succ, List.getElem_toArray, List.getElem_cons_zero, List.getElem_cons_succ]
          refine wpAnyH_ready (rs := [22]) (by kernel_rfl) (by simp) ?_
          refine AllReadyH.cons rfl (fun K hK => ?_) AllReadyH.nil
          go_simp
          skip
          go_wp2_with fail
          refine hK.out _ _ (Lib.hid ⟨far_cell HDG.out hHeld2.out.1 _ _, far_lt hHeld2.out.2 _ _⟩) (fun hHeld3 => ?_)
          clear hK K hHeld2
          try simp only [Act.put, List.setIfInBounds_toArray, List.set_cons_zero, List.set_cons_succ, List.getElem_toArray, List.getElem_cons_zero, List.getElem_cons_succ]
          refine wpAnyH_done (by kernel_rfl) ?_ _
          go_wp2_with fail
          obtain ⟨hfin, hst⟩ := H3.out.mid HG.out.2.1 (al.take j) ([])
          have hcf : cutF ((j : Int)).toNat f = ⟨f.n, al.take j, []⟩ := by
            rw [Int.toNat_natCast, cutF, HAL.out]
            rw [if_pos HM.out, List.take_append_of_le_length HM.out]

          refine bodyPost_ret (results_tmp rfl _ _ _) rfl ?_
          simp only [RfP, cutS, HO.out, HG.out.1, Bool.false_eq_true, if_false]
          rw [if_neg HK.out, if_neg (by rw [HQ.out]; simp)]
          refine ⟨rfl, S, ⟨some ⟨g, off, none⟩, cap, ?_⟩, H2.out.2.trans hst.drew⟩
          rw [HG.out.2.1, ← HG.out.2.2.1, emod_mid (by rw [← HG.out.2.1]; exact HR.out), hcf]
          exact hfin.step ((Step.refl [] _).drew) (by simp)
        · obtain ⟨i, hi⟩ : ∃ i, j = f.d.length + i := ⟨j - f.d.length, by omega⟩
          have hmin : min (j : Int) (f.d.length : Int) = (f.d.length : Int) := by omega
          have HM := Lib.hid (And.intro hjd hi)
          have hdj : (f.d.length : Int) ≤ (j : Int) := by omega
          have hdj2 : f.d.length ≤ j := by omega
          have hda : f.d.length ≤ al.length := by omega
          clear hjd hi
          go_upto_region 12 with fail
          have HC : Hid (w2.drew.cell? ⟨d, 0, none⟩ = some (.slice (some ⟨g, off, none⟩) s.E.length cap) ∧ g < w2.drew.heap.size) := Lib.hid ⟨c0, gl⟩
          refine wp_region_held_drew (S := fun W => Hid (W.cell? ⟨d, 0, none⟩ = some (.slice (some ⟨g, off, none⟩) s.E.length cap) ∧ g < W.heap.size)) (by kernel_rfl) (HC) (fun hHeld => ?_)
          refine wpAnyH_take (i := 0) (v := ?_) rfl (by kernel_rfl) (by kernel_rfl) (by kernel_rfl) (fun _ _ _ h => h) (Or.inl ⟨by rfl, ?_⟩) hHeld ?_
          rotate_left
          · intro w hSw
            have hSw1 := hSw
            clear hSw
            try dsimp only at hSw1
            go_simp
            try (with_reducible rfl)
          try simp only [Act.put, List.setIfInBounds_toArray, List.set_cons_zero, List.set_cons_succ, List.getElem_toArray, List.getElem_cons_zero, List.getElem_cons_succ]
          refine wpAnyH_take (i := 1) (v := ?_) rfl (by kernel_rfl) (by kernel_rfl) (by kernel_rfl) (fun _ _ _ h => h) (Or.inl ⟨by rfl, ?_⟩) hHeld ?_
          rotate_left
          · intro w hSw
            have hSw1 := hSw
            clear hSw
            try dsimp only at hSw1
            go_simp
            try (with_reducible rfl)
          try simp only [Act.put, List.setIfInBounds_toArray, List.set_cons_zero, List.set_cons_succ, List.getElem_toArray, List.getElem_cons_zero, List.getElem_cons_succ]
          refine wpAnyH_take (i := 2) (v := ?_) rfl (by kernel_rfl) (by kernel_rfl) (by kernel_rfl) (fun _ _ _ h => h) (Or.inl ⟨by rfl, ?_⟩) hHeld ?_
          rotate_left
          · intro w hSw
            have hSw1 := hSw
            clear hSw
            try dsimp only at hSw1
            go_simp
            try (with_reducible rfl)
          try simp only [Act.put, List.setIfInBounds_toArray, List.set_cons_zero, List.set_cons_succ, List.getElem_toArray, List.getElem_cons_zero, List.getElem_cons_succ]
          refine wpAnyH_take (i := 3) (v := ?_) rfl (by kernel_rfl) (by kernel_rfl) (by kernel_rfl) (fun _ _ _ h => h) (Or.inl ⟨by rfl, ?_⟩) hHeld ?_
          rotate_left
          · intro w hSw
            have hSw1 := hSw
            clear hSw
            have t0 := hSw1.out.1
            have tl := hSw1.out.2
            go_simp
            try (with_reducible rfl)
          try simp only [Act.put, List.setIfInBounds_toArray, List.set_cons_zero, List.set_cons_succ, List.getElem_toArray, List.getElem_cons_zero, List.getElem_cons_succ]
          refine wpAnyH_take (i := 4) (v := ?_) rfl (by kernel_rfl) (by kernel_rfl) (by kernel_rfl) (fun _ _ _ h => h) (Or.inl ⟨by rfl, ?_⟩) hHeld ?_
          rotate_left
          · intro w hSw
            have hSw1 := hSw
            clear hSw
            try dsimp only at hSw1
            go_simp
            try (with_reducible rfl)
          try simp only [Act.put, List.setIfInBounds_toArray, List.set_cons_zero, List.set_cons_succ, List.getElem_toArray, List.getElem_cons_zero, List.getElem_cons_succ]
          refine wpAnyH_take (i := 5) (v := ?_) rfl (by kernel_rfl) (by kernel_rfl) (by kernel_rfl) (fun _ _ _ h => h) (Or.inl ⟨by rfl, ?_⟩) hHeld ?_
          rotate_left
          · intro w hSw
            have hSw1 := hSw
            clear hSw
            try dsimp only at hSw1
            go_simp
            try (with_reducible rfl)
          try simp only [Act.put, List.setIfInBounds_toArray, List.set_cons_zero, List.set_cons_succ, List.getElem_toArray, List.getElem_cons_zero, List.getElem_cons_succ]
          refine wpAnyH_take (i := 6) (v := ?_) rfl (by kernel_rfl) (by kernel_rfl) (by kernel_rfl) (fun _ _ _ h => h) (Or.inl ⟨by rfl, ?_⟩) hHeld ?_
          rotate_left
          · intro w hSw
            have hSw1 := hSw
            clear hSw
            try dsimp only at hSw1
            go_simp
            try (with_reducible rfl)
          try simp only [Act.put, List.setIfInBounds_toArray, List.set_cons_zero, List.set_cons_succ, List.getElem_toArray, List.getElem_cons_zero, List.getElem_cons_succ]
          refine wpAnyH_take (i := 7) (v := ?_) rfl (by kernel_rfl) (by kernel_rfl) (by kernel_rfl) (fun _ _ _ h => h) (Or.inl ⟨by rfl, ?_⟩) hHeld ?_
          rotate_left
          · intro w hSw
            have hSw1 := hSw
            clear hSw
            try dsimp only at hSw1
            go_simp
            try (with_reducible rfl)
          try simp only [Act.put, List.setIfInBounds_toArray, List.set_cons_zero, List.set_cons_succ, List.getElem_toArray, List.getElem_cons_zero, List.getElem_cons_succ]
          refine wpAnyH_take (i := 8) (v := ?_) rfl (by kernel_rfl) (by kernel_rfl) (by kernel_rfl) (fun _ _ _ h => h) (Or.inl ⟨by rfl, ?_⟩) hHeld ?_
          rotate_left
          · intro w hSw
            have hSw1 := hSw
            clear hSw
            have t0 := hSw1.out.1
            have tl := hSw1.out.2
            go_simp
            try (with_reducible rfl)
          try simp only [Act.put, List.setIfInBounds_toArray, List.set_cons_zero, List.set_cons_succ, List.getElem_toArray, List.getElem_cons_zero, List.getElem_cons_succ]
          refine wpAnyH_take (i := 9) (v := ?_) rfl (by kernel_rfl) (by kernel_rfl) (by kernel_rfl) (fun _ _ _ h => h) (Or.inl ⟨by rfl, ?_⟩) hHeld ?_
          rotate_left
          · intro w hSw
            have hSw1 := hSw
            clear hSw
            try dsimp only at hSw1
            go_simp
            try (with_reducible rfl)
          try simp only [Act.put, List.setIfInBounds_toArray, List.set_cons_zero, List.set_cons_succ, List.getElem_toArray, List.getElem_cons_zero, List.getElem_cons_succ]
          refine wpAnyH_take (i := 10) (v := ?_) rfl (by kernel_rfl) (by kernel_rfl) (by kernel_rfl) (fun _ _ _ h => h) (Or.inl ⟨by rfl, ?_⟩) hHeld ?_
          rotate_left
          · intro w hSw
            have hSw1 := hSw
            clear hSw
            try dsimp only at hSw1
            go_simp
            try (with_reducible rfl)
          try simp only [Act.put, List.setIfInBounds_toArray, List.set_cons_zero, List.set_cons_succ, List.getElem_toArray, List.getElem_cons_zero, List.getElem_cons_succ]
          refine wpAnyH_take (i := 11) (v := ?_) rfl (by kernel_rfl) (by kernel_rfl) (by kernel_rfl) (fun _ _ _ h => h) (Or.inl ⟨by rfl, ?_⟩) hHeld ?_
          rotate_left
          · intro w hSw
            have hSw1 := hSw
            clear hSw
            try dsimp only at hSw1
            go_simp
            try (with_reducible rfl)
          try simp only [Act.put, List.setIfInBounds_toArray, List.set_cons_zero, List.set_cons_succ, List.getElem_toArray, List.getElem_cons_zero, List.getElem_cons_succ]
          refine wpAnyH_take (i := 12) (v := ?_) rfl (by kernel_rfl) (by kernel_rfl) (by kernel_rfl) (fun _ _ _ h => h) (Or.inl ⟨by rfl, ?_⟩) hHeld ?_
          rotate_left
          · intro w hSw
            have hSw1 := hSw
            clear hSw
            try dsimp only at hSw1
            go_simp
            try (with_reducible rfl)
          try simp only [Act.put, List.setIfInBounds_toArray, List.set_cons_zero, List.set_cons_succ, List.getElem_toArray, List.getElem_cons_zero, List.getElem_cons_succ]
          refine wpAnyH_take (i := 13) (v := ?_) rfl (by kernel_rfl) (by kernel_rfl) (by kernel_rfl) (fun _ _ _ h => h) (Or.inl ⟨by rfl, ?_⟩) hHeld ?_
          rotate_left
          · intro w hSw
            have hSw1 := hSw
            clear hSw
            try dsimp only at hSw1
            go_simp
            try (with_reducible rfl)
          try simp only [Act.put, List.setIfInBounds_toArray, List.set_cons_zero, List.set_cons_succ, List.getElem_toArray, List.getElem_cons_zero, List.getElem_cons_succ]
          refine wpAnyH_take (i := 14) (v := ?_) rfl (by kernel_rfl) (by kernel_rfl) (by kernel_rfl) (fun _ _ _ h => h) (Or.inl ⟨by rfl, ?_⟩) hHeld ?_
          rotate_left
          · intro w hSw
            have hSw1 := hSw
            clear hSw
            try dsimp only at hSw1
            go_simp
            try (with_reducible rfl)
          try simp only [Act.put, List.setIfInBounds_toArray, List.set_cons_zero, List.set_cons_succ, List.getElem_toArray, List.getElem_cons_zero, List.getElem_cons_succ]
          refine wpAnyH_take (i := 15) (v := ?_) rfl (by kernel_rfl) (by kernel_rfl) (by kernel_rfl) (fun _ _ _ h => h) (Or.inl ⟨by rfl, ?_⟩) hHeld ?_
          rotate_left
          · intro w hSw
            have hSw1 := hSw
            clear hSw
            try dsimp only at hSw1
            go_simp
            try (with_reducible rfl)
          try simp only [Act.put, List.setIfInBounds_toArray, List.set_cons_zero, List.set_cons_succ, List.getElem_toArray, List.getElem_cons_zero, List.getElem_cons_succ]
          refine wpAnyH_take (i := 16) (v := ?_) rfl (by kernel_rfl) (by kernel_rfl) (by kernel_rfl) (fun _ _ _ h => h) (Or.inl ⟨by rfl, ?_⟩) hHeld ?_
          rotate_left
          · intro w hSw
            have hSw1 := hSw
            clear hSw
            try dsimp only at hSw1
            go_simp
            try (with_reducible rfl)
          try simp only [Act.put, List.setIfInBounds_toArray, List.set_cons_zero, List.set_cons_succ, List.getElem_toArray, List.getElem_cons_zero, List.getElem_cons_succ]
          refine wpAnyH_take (i := 17) (v := ?_) rfl (by kernel_rfl) (by kernel_rfl) (by kernel_rfl) (fun _ _ _ h => h) (Or.inl ⟨by rfl, ?_⟩) hHeld ?_
          rotate_left
          · intro w hSw
            have hSw1 := hSw
            clear hSw
            try dsimp only at hSw1
            go_simp
            try (with_reducible rfl)
          try simp only [Act.put, List.setIfInBounds_toArray, List.set_cons_zero, List.set_cons_succ, List.getElem_toArray, List.getElem_cons_zero, List.getElem_cons_succ]
          refine wpAnyH_take (i := 18) (v := ?_) rfl (by kernel_rfl) (by kernel_rfl) (by kernel_rfl) (fun _ _ _ h => h) (Or.inl ⟨by rfl, ?_⟩) hHeld ?_
          rotate_left
          · intro w hSw
            have hSw1 := hSw
            clear hSw
            try dsimp only at hSw1
            go_simp
            try (with_reducible rfl)
          try simp only [Act.put, List.setIfInBounds_toArray, List.set_cons_zero, List.set_cons_succ, List.getElem_toArray, List.getElem_cons_zero, List.getElem_cons_succ]
          refine wpAnyH_ready (rs := [19]) (by kernel_rfl) (by simp) ?_
          refine AllReadyH.cons rfl (fun K hK => ?_) AllReadyH.nil
          go_simp
          skip
          go_wp2_with fail
          refine hK.out _ _ (Lib.hid ⟨far_cell HDG.out hHeld.out.1 _ _, far_lt hHeld.out.2 _ _⟩) (fun hHeld2 => ?_)
          clear hK K hHeld
          try simp only [Act.put, List.setIfInBounds_toArray, List.set_cons_zero, List.set_cons_succ, List.getElem_toArray, List.getElem_cons_zero, List.getElem_cons_succ]
          refine wpAnyH_take (i := 20) (v := ?_) rfl (by kernel_rfl) (by kernel_rfl) (by kernel_rfl) (fun _ _ _ h => h) (Or.inl ⟨by rfl, ?_⟩) hHeld2 ?_
          rotate_left
          · intro w hSw
            have hSw1 := hSw
            clear hSw
            try dsimp only at hSw1
            go_simp
            try (with_reducible rfl)
          try simp only [Act.put, List.setIfInBounds_toArray, List.set_cons_zero, List.set_cons_succ, List.getElem_toArray, List.getElem_cons_zero, List.getElem_cons_succ]
          refine wpAnyH_take (i := 21) (v := ?_) rfl (by kernel_rfl) (by kernel_rfl) (by kernel_rfl) (fun _ _ _ h => h) (Or.inl ⟨by rfl, ?_⟩) hHeld2 ?_
          rotate_left
          · intro w hSw
            have hSw1 := hSw
            clear hSw
            try dsimp only at hSw1
            go_simp
            try (with_reducible rfl)
          try simp only [Act.put, List.setIfInBounds_toArray, List.set_cons_zero, List.set_cons_succ, List.getElem_toArray, List.getElem_cons_zero, List.getElem_cons_succ]
          refine wpAnyH_ready (rs := [22]) (by kernel_rfl) (by simp) ?_
          refine AllReadyH.cons rfl (fun K hK => ?_) AllReadyH.nil
          go_simp
          skip
          go_wp2_with fail
          refine hK.out _ _ (Lib.hid ⟨far_cell HDG.out hHeld2.out.1 _ _, far_lt hHeld2.out.2 _ _⟩) (fun hHeld3 => ?_)
          clear hK K hHeld2
          try simp only [Act.put, List.setIfInBounds_toArray, List.set_cons_zero, List.set_cons_succ, List.getElem_toArray, List.getElem_cons_zero, List.getElem_cons_succ]
          refine wpAnyH_done (by kernel_rfl) ?_ _
          go_wp2_with fail
          obtain ⟨hfin, hst⟩ := H3.out.mid HG.out.2.1 (al.take f.d.length) ((al.drop f.d.length).take (j - f.d.length))
          have hcf : cutF ((j : Int)).toNat f = ⟨f.n, al.take f.d.length, (al.drop f.d.length).take (j - f.d.length)⟩ := by
            rw [Int.toNat_natCast, cutF, HAL.out]
            rw [if_neg HM.out.1, List.take_left, List.drop_left]

          refine bodyPost_ret (results_tmp rfl _ _ _) rfl ?_
          simp only [RfP, cutS, HO.out, HG.out.1, Bool.false_eq_true, if_false]
          rw [if_neg HK.out, if_neg (by rw [HQ.out]; simp)]
          refine ⟨rfl, S, ⟨some ⟨g, off, none⟩, cap, ?_⟩, H2.out.2.trans hst.drew⟩
          rw [HG.out.2.1, ← HG.out.2.2.1, emod_mid (by rw [← HG.out.2.1]; exact HR.out), hcf]
          exact hfin.step ((Step.refl [] _).drew) (by simp)

set_option maxHeartbeats 1000000 in
theorem rremove_any (x : List UInt8) (w : World) (S : List Nat) (d : Nat) (s : St) (h : Rf w S d s) (hB : StB s) (hr : ERis s.E) : Calls Tryd.prog 32 #[.pointer (some ⟨d, 0, none⟩), Str x] w (RfP (removeS s x) S d w) := by
  have HR := Lib.hid hr
  clear hr

  obtain ⟨a, cap, h⟩ := h
  have c3 := h.blk.cell 3
  simp only [List.getElem?_toArray, List.getElem?_cons_zero, List.getElem?_cons_succ] at c3
  have hat := rat_any x w S d s ⟨a, cap, h⟩ hB
  have HF := Lib.hid hat
  have HB := Lib.hid (And.intro h hB)
  clear hat h hB
  go_enter Tryd.func32, Tryd.ntmps32
  go_wp2_with fail
  refine HF.out.mono ?_
  rintro e w1 ⟨rfl, rfl⟩
  cases ho : s.off with
  | true =>
    have HO := Lib.hid ho
    rw [ho] at c3
    clear ho
    go_wp2_with fail
    refine bodyPost_ret (results_tmp rfl _ _ _) rfl ?_
    simp only [RfP, removeS, onFile, HO.out, Bool.false_eq_true, if_false, if_true]
    exact ⟨rfl, S, ⟨a, cap, HB.out.1⟩, Step.refl _ _⟩
  | false =>
    have HO := Lib.hid ho
    rw [ho] at c3
    clear ho
    cases hg : eget s.E x with
    | none =>
      rw [atI_miss hg]
      have HG := Lib.hid hg
      clear hg
      go_wp2_with fail
      refine bodyPost_ret (results_tmp rfl _ _ _) rfl ?_
      simp only [RfP, removeS, onFile, HO.out, HG.out, Bool.false_eq_true, if_false, if_true]
      exact ⟨rfl, S, ⟨a, cap, HB.out.1⟩, Step.refl _ _⟩
    | some f =>
      obtain ⟨A, B, hE, hfn, hai, hel⟩ := atI_split hg
      rw [hai]
      have HG := Lib.hid (And.intro hg (And.intro hE (And.intro hfn hel)))
      have hAl : A.length < 1099511627776 := by
        have h1 := HB.out.2.len
        rw [hE] at h1
        simp at h1
        omega
      have hneg : decide ((A.length : Int) < 0) = false := decide_eq_false (by omega)
      clear hg hE hfn hai hel
      go_wp2_with fail
      refine (rburns_any w S d cap a s HB.out.1 HB.out.2.fuse.2).mono ?_
      rintro e w2 ⟨rfl, hb2, hs2⟩
      have hw2 : Step S S w w2 := hs2.wide (by intro k hk; simp only [List.mem_singleton] at hk; rw [hk, HB.out.1.hS]; simp) (by intro k hk; exact .inl hk)
      have H2 := Lib.hid (And.intro hb2 hw2)
      clear hb2 hs2 hw2
      cases hbo : s.burn.off with
      | true =>
        have HQ := Lib.hid hbo
        clear hbo
        go_wp2_with fail
        refine bodyPost_ret (results_tmp rfl _ _ _) rfl ?_
        simp only [RfP, removeS, onFile, HO.out, HG.out.1, HQ.out, Bool.false_eq_true, if_false, if_true]
        exact ⟨rfl, S, ⟨a, cap, H2.out.1⟩, H2.out.2⟩
      | false =>
        have HQ := Lib.hid hbo
        clear hbo
        have hAE : A.length < s.E.length := by rw [HG.out.2.1]; simp
        have hAi : (A.length : Int) < (s.E.length : Int) := by omega
        obtain ⟨g, off, hs1⟩ := (HB.out.1.row).some_of_pos (by omega)
        have HA : Hid (a = some ⟨g, off, none⟩) := Lib.hid hs1
        have H3 : Hid (Rfm w2 S d (some ⟨g, off, none⟩) cap s.burn) := Lib.hid (by rw [← hs1]; exact H2.out.1)
        clear hs1
        have c0 := H3.out.blk.cell 0
        simp only [List.getElem?_toArray, List.getElem?_cons_zero, List.getElem?_cons_succ] at c0
        rw [show s.burn.E = s.E from rfl] at c0
        have dl := H3.out.blk.lt
        have hdf := H3.out.blk.frozen 0
        have hcl := H3.out.row.le
        have hcm := H3.out.row.max
        rw [show s.burn.E = s.E from rfl] at hcl
        have hNl : s.E.length ≤ 1099511627776 := HB.out.2.len
        obtain ⟨i0, hi, hz0, hz1, hz2⟩ := info_parts Tryd.info_file
        have HI := Lib.hid (And.intro hi (And.intro hz0 (And.intro hz1 hz2)))
        clear hi hz0 hz1 hz2
        obtain ⟨N, hN⟩ : ∃ N, N = s.E.length := ⟨_, rfl⟩
        obtain ⟨j, hj⟩ : ∃ j, j = A.length := ⟨_, rfl⟩
        rw [← hN] at c0 hcl hNl hAE hAi
        rw [← hj] at hAE hAi hneg ⊢
        have HNJ := Lib.hid (And.intro hN hj)
        clear hN hj
        have hjc : (j : Int) ≤ (cap : Int) := by omega
        have hjc2 : j ≤ cap := by omega
        have HS1 : Hid (Rd (w2.alloc (.cells #[] 77)) 3 (some ⟨g, off, none⟩) j (enVs A)) := Lib.hid (by
          have h1 := (H3.out.row.rd.step0 ((Step.refl [] w2).alloc (.cells #[] 77))).take j (by show j ≤ s.E.length; rw [← HNJ.out.1]; omega)
          rw [show (s.burn).E = A ++ f :: B from HG.out.2.1, HNJ.out.2, enVs_take] at h1
          rw [HNJ.out.2]; exact h1)
        go_upto_region 9 with (at_builtin; refine wpList_append_row rfl (.tmp 18) (.tmp 24) 68 68 rfl 77 i0 _ 3 48 Tryd.underlying68 HI.out.1 HI.out.2.1 HI.out.2.2.1 HI.out.2.2.2 rfl rfl (Row.empty w2 77 3) rfl (Src.rd 68 77 Tryd.underlying68 HS1.out (enVs_one _)) (by unfold maxLen; omega) (by omega) (by omega) ?_; intro a9 c9 w9 hr9 st9)
        rw [Nat.zero_add, List.nil_append] at hr9
        have H9 : Hid (Row w9 3 a9 j c9 (enVs A) ∧ Step [] (blks a9) w2 w9) := Lib.hid ⟨hr9, ((Step.refl [] w2).hold (.cells #[] 77)).trans st9⟩
        clear hr9 st9 c0 dl hdf
        have H3' := H3.out.step H9.out.2 (by simp)
        have H4 := Lib.hid H3'
        have c0 := H3'.blk.cell 0
        simp only [List.getElem?_toArray, List.getElem?_cons_zero, List.getElem?_cons_succ] at c0
        rw [show s.burn.E = s.E from rfl, ← HNJ.out.1] at c0
        clear H3'
        have hj1 : (j : Int) + 1 ≤ (N : Int) := by omega
        have hj2 : (j : Int) + 1 ≤ (cap : Int) := by omega
        have hNc : (N : Int) ≤ (cap : Int) := by omega
        have HS2 : Hid (Rd w9 3 (if cap = j + 1 then some ⟨g, off, none⟩ else some ⟨g, off + (j + 1) * 3, none⟩) (N - (j + 1)) (enVs B)) := Lib.hid (by
          have h1 := (H4.out.row.sub (j + 1) N (by omega) (by show N ≤ s.E.length; rw [← HNJ.out.1]; exact Nat.le_refl _)).rd
          have hB : ((enVs s.burn.E).drop ((j + 1) * 3)).take ((N - (j + 1)) * 3) = enVs B := by
            have e : s.burn.E = (A ++ [f]) ++ B := by rw [show s.burn.E = s.E from rfl, HG.out.2.1]; simp
            have l1 : (A ++ [f]).length = j + 1 := by rw [HNJ.out.2]; simp
            have l2 : N = (j + 1) + B.length := by rw [HNJ.out.1, HNJ.out.2, HG.out.2.1]; simp; omega
            rw [e, ← l1, enVs_drop, List.take_of_length_le]
            rw [enVs_len, l1, l2]; omega
          rw [hB] at h1
          simpa [addr_add] using h1)
        have HDA : Hid (d ∉ blks a9) := Lib.hid (fun hm => by
          rcases H9.out.2.fresh d hm with h | h
          · simp at h
          · have := H3.out.blk.lt; omega)
        have HLN : Hid (j + (N - (j + 1)) = (A ++ B).length) := Lib.hid (by rw [HNJ.out.1, HNJ.out.2, HG.out.2.1]; simp; omega)
        by_cases hcj : cap = j + 1
        · rw [if_pos hcj] at HS2
          go_wp2_with (at_builtin; refine wpList_append_row rfl (.tmp 27) (.tmp 34) 68 68 rfl 77 i0 _ 3 48 Tryd.underlying68 HI.out.1 HI.out.2.1 HI.out.2.2.1 HI.out.2.2.2 rfl rfl H9.out.1 rfl (Src.rd 68 77 Tryd.underlying68 HS2.out (enVs_one _)) (by unfold maxLen; omega) (by omega) (by omega) ?_; intro b9 d9 v9 hr9 st9; have G9 : Hid (Row v9 3 b9 (j + (N - (j + 1))) d9 (enVs A ++ enVs B) ∧ Step (blks a9) (blks b9) w9 v9) := Lib.hid ⟨hr9, st9⟩; have HD9 := H4.out.blk.step st9 HDA.out; have dl := HD9.lt; have df := HD9.frozen 0; have cc := HD9.cell 0; simp only [List.getElem?_toArray, List.getElem?_cons_zero, List.getElem?_cons_succ] at cc; have HE9 := Lib.hid HD9; clear hr9 st9 HD9 c0)
          have hdb : d ∉ blks b9 := fun hm => by
            rcases G9.out.2.fresh d hm with h | h
            · exact HDA.out h
            · have := H4.out.blk.lt; omega
          obtain ⟨v10, hv10⟩ : ∃ v, v = v9.setCell ⟨d, 0, none⟩ (.slice b9 (j + (N - (j + 1))) d9) := ⟨_, rfl⟩
          have hbk := HE9.out.set 0 (.slice b9 (j + (N - (j + 1))) d9)
          have hs0 : Step [] (blks b9) w2 v9 := H9.out.2.trans G9.out.2
          have hs1 : Step S (d :: blks b9) w2 v10 := by
            rw [hv10]
            exact (hs0.wide (T := S) (S'' := d :: blks b9) (by simp) (by
              intro k hk
              rcases List.mem_cons.1 hk with rfl | hk
              · exact .inl HB.out.1.memd
              · exact .inr (.inl hk))).setCell (p := ⟨d, 0, none⟩) (.inl (by simp)) _
          rw [← hv10] at hbk ⊢
          have hrow : Row v10 3 b9 (j + (N - (j + 1))) d9 (enVs A ++ enVs B) := by
            rw [hv10]
            exact G9.out.1.step ((Step.refl [d] v9).setCell (p := ⟨d, 0, none⟩) (.inl (by simp)) _) (by intro k hk hm; simp only [List.mem_singleton] at hm; exact hdb (hm ▸ hk))
          refine bodyPost_ret (results_tmp rfl _ _ _) rfl ?_
          simp only [RfP, removeS, onFile, HO.out, HG.out.1, HQ.out, Bool.false_eq_true, if_false]
          have hed : edel s.E x = A ++ B := by rw [HG.out.2.1, ← HG.out.2.2.1, edel_mid (by rw [← HG.out.2.1]; exact HR.out)]
          rw [hed]
          refine ⟨rfl, d :: blks b9, ⟨b9, d9, rfl, ?_, ?_, hdb⟩, H2.out.2.trans hs1⟩
          · rw [HLN.out] at hbk
            rw [← HQ.out]
            simpa using hbk
          · simp only
            rw [← HLN.out, enVs_app]
            exact hrow
        · rw [if_neg hcj] at HS2
          go_wp2_with (at_builtin; refine wpList_append_row rfl (.tmp 27) (.tmp 34) 68 68 rfl 77 i0 _ 3 48 Tryd.underlying68 HI.out.1 HI.out.2.1 HI.out.2.2.1 HI.out.2.2.2 rfl rfl H9.out.1 rfl (Src.rd 68 77 Tryd.underlying68 HS2.out (enVs_one _)) (by unfold maxLen; omega) (by omega) (by omega) ?_; intro b9 d9 v9 hr9 st9; have G9 : Hid (Row v9 3 b9 (j + (N - (j + 1))) d9 (enVs A ++ enVs B) ∧ Step (blks a9) (blks b9) w9 v9) := Lib.hid ⟨hr9, st9⟩; have HD9 := H4.out.blk.step st9 HDA.out; have dl := HD9.lt; have df := HD9.frozen 0; have cc := HD9.cell 0; simp only [List.getElem?_toArray, List.getElem?_cons_zero, List.getElem?_cons_succ] at cc; have HE9 := Lib.hid HD9; clear hr9 st9 HD9 c0)
          have hdb : d ∉ blks b9 := fun hm => by
            rcases G9.out.2.fresh d hm with h | h
            · exact HDA.out h
            · have := H4.out.blk.lt; omega
          obtain ⟨v10, hv10⟩ : ∃ v, v = v9.setCell ⟨d, 0, none⟩ (.slice b9 (j + (N - (j + 1))) d9) := ⟨_, rfl⟩
          have hbk := HE9.out.set 0 (.slice b9 (j + (N - (j + 1))) d9)
          have hs0 : Step [] (blks b9) w2 v9 := H9.out.2.trans G9.out.2
          have hs1 : Step S (d :: blks b9) w2 v10 := by
            rw [hv10]
            exact (hs0.wide (T := S) (S'' := d :: blks b9) (by simp) (by
              intro k hk
              rcases List.mem_cons.1 hk with rfl | hk
              · exact .inl HB.out.1.memd
              · exact .inr (.inl hk))).setCell (p := ⟨d, 0, none⟩) (.inl (by simp)) _
          rw [← hv10] at hbk ⊢
          have hrow : Row v10 3 b9 (j + (N - (j + 1))) d9 (enVs A ++ enVs B) := by
            rw [hv10]
            exact G9.out.1.step ((Step.refl [d] v9).setCell (p := ⟨d, 0, none⟩) (.inl (by simp)) _) (by intro k hk hm; simp only [List.mem_singleton] at hm; exact hdb (hm ▸ hk))
          refine bodyPost_ret (results_tmp rfl _ _ _) rfl ?_
          simp only [RfP, removeS, onFile, HO.out, HG.out.1, HQ.out, Bool.false_eq_true, if_false]
          have hed : edel s.E x = A ++ B := by rw [HG.out.2.1, ← HG.out.2.2.1, edel_mid (by rw [← HG.out.2.1]; exact HR.out)]
          rw [hed]
          refine ⟨rfl, d :: blks b9, ⟨b9, d9, rfl, ?_, ?_, hdb⟩, H2.out.2.trans hs1⟩
          · rw [HLN.out] at hbk
            rw [← HQ.out]
            simpa using hbk
          · simp only
            rw [← HLN.out, enVs_app]
            exact hrow

end Go.Proofs.YtfkjgkgflkhbnaaDoor
