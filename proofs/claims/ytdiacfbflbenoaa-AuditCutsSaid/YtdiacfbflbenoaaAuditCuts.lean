/-
  AuditCuts: a chain that was cut anywhere goes on as it would have. No condition beyond the row's.
-/
import Derived.Test.YtdiacfbflbenoaaAuditOpen2
import Derived.Test.YtdiacfbflbenoaaAuditTrio
import Derived.Test.YtdiacfbflbenoaaRows
namespace Go.Proofs.Ytdiacfbflbenoaa
open Go.RowKit Go.Lib Go.ChangeShapes Go.WideShapes Go.ChangeAt
set_option linter.unusedSimpArgs false
set_option linter.unusedVariables false
set_option maxRecDepth 100000

/-- What the loops keep of a chain: its size, and that its head's hash is short. -/
structure Fit (c : Ch) (k : Nat) : Prop where
  base : c.base.count = 0 ∨ (0 ≤ c.base.count ∧ c.base.count ≤ 1000)
  len : c.ls.length ≤ k
  hash : (headL c.base c.ls).hash.length ≤ 1073741824
theorem Fit.ok {c : Ch} {k : Nat} (h : Fit c k) (hk : k ≤ 1000) : ChOk c := ⟨by rcases h.base with h | h <;> omega, by have := h.len; omega⟩
theorem Fit.add {c : Ch} {k : Nat} (h : Fit c k) (x : Ln) : Fit (addL c x) (k + 1) := by
  refine ⟨by rw [addL_base]; exact h.base, by have := addL_len c x; have := h.len; omega, ?_⟩
  unfold addL
  split
  · show (headL c.base (c.ls ++ [addedL c x])).hash.length ≤ _
    rw [headL_snoc]
    show (nextL _ _ _).length ≤ _
    rw [next_len]
    omega
  · exact h.hash
theorem Fit.more {c : Ch} {k m : Nat} (h : Fit c k) (hk : k ≤ m) : Fit c m := ⟨h.base, by have := h.len; omega, h.hash⟩
theorem Fit.cut {c : Ch} {k : Nat} (h : Fit c k) (n : Int) (hc : c.base.count = 0) (hk : k ≤ 1000 := by omega) : Fit (cutL c n) k := by
  have hl := h.len
  refine ⟨?_, by have := cutL_len c n; omega, by rw [← (CutRel.cut c n).head]; exact h.hash⟩
  unfold cutL
  split
  · right
    show 0 ≤ (headL c.base _).count ∧ (headL c.base _).count ≤ 1000
    rw [headL_count, List.length_take]
    omega
  · exact h.base
def PLines (w0 : World) (p q : Nat) (c d : Ch) (l : List Ln) (e : Ending) (w' : World) : Prop := ∃ a cap, e = .returned (.slice a l.length cap) ∧ Row w' 8 a l.length cap (lncs l) ∧ Pair w0 w' p q c d
theorem pair_lines1 {w0 w : World} {p q : Nat} {c d : Ch} (h : Pair w0 w p q c d) (hc : ChOk c) : Calls Try.prog 18 #[.pointer (some ⟨p, 0, none⟩)] w fun e w' => PLines w0 p q c d c.ls e w' ∧ Step [] [] w w' := by
  have H := h
  obtain ⟨S, T, h1, h2, h3, h4⟩ := h
  refine (lines_any p S c w h1 hc).mono ?_
  rintro e w' ⟨a, cap, rfl, g, k⟩
  have k' : Step [] [] w w' := k.drop (by simp)
  exact ⟨⟨a, cap, rfl, g, H.quiet k'⟩, k'⟩
theorem pair_lines2 {w0 w : World} {p q : Nat} {c d : Ch} (h : Pair w0 w p q c d) (hc : ChOk d) : Calls Try.prog 18 #[.pointer (some ⟨q, 0, none⟩)] w fun e w' => PLines w0 p q c d d.ls e w' ∧ Step [] [] w w' := by
  have H := h
  obtain ⟨S, T, h1, h2, h3, h4⟩ := h
  refine (lines_any q T d w h2 hc).mono ?_
  rintro e w' ⟨a, cap, rfl, g, k⟩
  have k' : Step [] [] w w' := k.drop (by simp)
  exact ⟨⟨a, cap, rfl, g, H.quiet k'⟩, k'⟩
theorem pair_head1 {w0 w : World} {p q : Nat} {c d : Ch} (h : Pair w0 w p q c d) (hc : ChOk c) : Calls Try.prog 14 #[.pointer (some ⟨p, 0, none⟩)] w fun e w' => e = .returned (.tuple #[.int .i64 (headL c.base c.ls).count, Str (headL c.base c.ls).hash]) ∧ Pair w0 w' p q c d := by
  have H := h
  obtain ⟨S, T, h1, h2, h3, h4⟩ := h
  exact (headOut_any p S c w h1 hc).mono fun e w' ⟨he, k⟩ => ⟨he, H.quiet k⟩
theorem pair_head2 {w0 w : World} {p q : Nat} {c d : Ch} (h : Pair w0 w p q c d) (hc : ChOk d) : Calls Try.prog 14 #[.pointer (some ⟨q, 0, none⟩)] w fun e w' => e = .returned (.tuple #[.int .i64 (headL d.base d.ls).count, Str (headL d.base d.ls).hash]) ∧ Pair w0 w' p q c d := by
  have H := h
  obtain ⟨S, T, h1, h2, h3, h4⟩ := h
  exact (headOut_any q T d w h2 hc).mono fun e w' ⟨he, k⟩ => ⟨he, H.quiet k⟩
theorem pair_base2 {w0 w : World} {p q : Nat} {c d : Ch} (h : Pair w0 w p q c d) : Calls Try.prog 15 #[.pointer (some ⟨q, 0, none⟩)] w fun e w' => e = .returned (.tuple #[.int .i64 d.base.count, Str d.base.hash]) ∧ Pair w0 w' p q c d := by
  have H := h
  obtain ⟨S, T, h1, h2, h3, h4⟩ := h
  exact (base_any q T d w h2).mono fun e w' ⟨he, k⟩ => ⟨he, H.quiet k⟩
theorem bne_of {u v : Bool} (h : ¬ u = v) : (!u == v) = true := by cases u <;> cases v <;> simp_all
theorem row_drop {w : World} {l : List Ln} {a : Option Addr} {cap k : Nat} (h : Row w 8 a l.length cap (lncs l)) (hk : k ≤ l.length) : Row w 8 (if cap = k then a else a.map (·.add (k * 8))) (l.length - k) (cap - k) (lncs (l.drop k)) := by
  have := h.sub k l.length hk (Nat.le_refl _)
  rwa [← lncs_drop _ _ hk, List.take_of_length_le (by rw [lncs_len, List.length_drop]; exact Nat.le_refl _)] at this
theorem same_drop {w : World} {l m : List Ln} {a b : Option Addr} {ca cb k : Nat} (h1 : Row w 8 a (l.length - k) ca (lncs (l.drop k))) (h2 : Row w 8 b m.length cb (lncs m)) (he : l.drop k = m) (hl : l.length ≤ 1099511627776) :
    Calls Try.prog 19 #[.slice a (l.length - k) ca, .slice b m.length cb] w fun e w' => e = .returned (.bool true) ∧ Step [] [] w w' := by
  subst he
  have hlen : (l.drop k).length = l.length - k := List.length_drop
  have := refSame_any (l.drop k) (l.drop k) a b ca cb w (by rw [hlen]; exact h1.rd) h2.rd (by omega) (by omega)
  rw [hlen] at this ⊢
  simpa using this
set_option maxHeartbeats 8000000 in
theorem cuts19_any (l m : List Ln) (a b : Option Addr) (ca cb : Nat) (n : Int) (w : World) (hl : Rd w 8 a l.length (lncs l)) (hm : Rd w 8 b m.length (lncs m)) (h1 : l.length ≤ 140737488351232) (h2 : m.length ≤ 140737488351232) (hx : ∀ x ∈ l, LnIn x) (hy : ∀ x ∈ m, LnIn x) :
    Calls Try.prog 4 #[.slice a l.length ca, .slice b m.length cb, .int .i64 n] w fun e w' => e = .returned (.bool true) ∧ Step [] [] w w' := by
  have H0 := Lib.hid (And.intro (And.intro hl hm) (And.intro hx hy))
  clear hl hm hx hy
  go_enter Try.func4, Try.ntmps4
  go_wp2_with fail
  refine (awake19_true w).mono ?_
  rintro e w1 ⟨rfl, k1⟩
  have H1 : Hid (Rd w1 8 a l.length (lncs l) ∧ Rd w1 8 b m.length (lncs m) ∧ Step [] [] w w1) := ⟨H0.out.1.1.step0 k1, H0.out.1.2.step0 k1, k1⟩
  clear k1
  go_wp2_with fail
  refine (great_any l a ca w1 H1.out.1 h1).mono ?_
  rintro e w2 ⟨rfl, rfl⟩
  cases hgl : greatL l with
  | true =>
    go_wp2_with fail
    exact bodyPost_ret (results_tmp rfl _ _ _) rfl ⟨rfl, H1.out.2.2⟩
  | false =>
    have GL : Hid (l.length ≤ 60 ∧ ∀ x ∈ l, LnOk x) := ⟨(greatL_len hgl).1, fun x hm => (H0.out.2.1 x hm).ok ((greatL_len hgl).2 x hm)⟩
    clear hgl
    go_wp2_with fail
    refine (great_any m b cb w1 H1.out.2.1 h2).mono ?_
    rintro e w2 ⟨rfl, rfl⟩
    cases hgm : greatL m with
    | true =>
      go_wp2_with fail
      exact bodyPost_ret (results_tmp rfl _ _ _) rfl ⟨rfl, H1.out.2.2⟩
    | false =>
      have GM : Hid (m.length ≤ 60 ∧ ∀ x ∈ m, LnOk x) := ⟨(greatL_len hgm).1, fun x hm => (H0.out.2.2 x hm).ok ((greatL_len hgm).2 x hm)⟩
      clear hgm
      go_wp2_with fail
      refine (auditNew_any w1).mono ?_
      rintro e w2 ⟨p, rfl, hp, k2⟩
      have H2 := Lib.hid (And.intro hp k2)
      clear hp k2
      go_wp2_with fail
      refine (auditNew_any w2).mono ?_
      rintro e w3 ⟨q, rfl, hq, k3⟩
      have H3 : Hid (Pair w1 w3 p q newL newL) :=
        ⟨[p], [q], H2.out.1.step k3 (by simp), hq, fun g hg hg' => by
          simp at hg hg'
          subst hg hg'
          exact absurd (by simp) (k3.notin (H2.out.1.lt g (by simp)) (by simp)), H2.out.2.trans (by simpa using k3.frame [p])⟩
      clear hq k3 H2
      go_wp2_with fail
      go_loopw [33] (fun i W => ∃ (k : Nat) (c : Ch), i = .int .i64 k ∧ k ≤ l.length ∧ Hid (Pair w1 W p q c c ∧ Fit c k ∧ c.base = ⟨0, zeros⟩)) (fun i _ => l.length - (intOf i).toNat)
      case atStart => exact ⟨0, newL, rfl, by omega, H3.out, ⟨.inl rfl, by simp [newL], by decide⟩, rfl⟩
      case round =>
        rename World => W
        obtain ⟨k, c, rfl, hk, HW⟩ := hrel
        have hl60 := GL.out.1
        by_cases hlt : k < l.length
        · have hlt' : (k : Int) < l.length := by omega
          obtain ⟨x, hx⟩ : ∃ x, l[k]? = some x := ⟨_, List.getElem?_eq_getElem hlt⟩
          have hrd := H1.out.1.step0 HW.out.1.out
          obtain ⟨g, off, rfl⟩ := hrd.some_ (by omega)
          have cx := rd_line hrd hx
          have gl : g < W.heap.size := by have := World.block_lt_of_cell? _ _ cx.1; simpa using this
          have LX := Lib.hid (GL.out.2 x (List.mem_of_getElem? hx))
          clear hx hrd
          go_upto_region 9 with fail
          clear cx gl
          obtain ⟨b, hb⟩ : ∃ b, b = W.heap.size := ⟨_, rfl⟩
          have HT : Hid (Trio w1 (W.alloc (.cells (lnc x).toArray 32)).drew p q c c b x) := Lib.hid (by rw [hb]; exact (HW.out.1.trio x).quiet ((Step.refl [] _).drew))
          obtain ⟨V, hV⟩ : ∃ V, V = W.alloc (.cells (lnc x).toArray 32) := ⟨_, rfl⟩
          rw [show W.alloc (.cells #[.int .i64 x.index, .int .i64 x.client, .int .i64 x.seq, Str x.user, .int .i64 x.kind, .int .i64 x.err, Str x.digest, Str x.hash] 32) = V from hV.symm]
          rw [← hV] at HT
          rw [← hb]
          clear hV hb
          have HO1 : Hid (ChOk c) := HW.out.2.1.ok (by omega)
          have HO2 := HO1
          have HH1 : Hid ((headL c.base c.ls).hash.length ≤ 1073741824) := HW.out.2.1.hash
          have HH2 := HH1
          refine wp_region_held_drew (S := fun V => Hid (Blk V b 32 (lnc x).toArray)) (by kernel_rfl) (Lib.hid HT.out.blk) (fun hHeld => ?_)
          refine wpAnyH_take (i := 0) (v := ?_) rfl (by kernel_rfl) (by kernel_rfl) (by kernel_rfl) (fun _ _ _ h => h) (Or.inl ⟨by rfl, ?_⟩) hHeld ?_
          rotate_left
          · intro w hSw
            have hSw1 := hSw
            clear hSw
            try dsimp only at hSw1
            go_simp
            try (with_reducible rfl)
          try simp only [Act.put, List.setIfInBounds_toArray, List.set_cons_zero, List.set_cons_succ, List.getElem_toArray, List.getElem_cons_zero, List.getElem_cons_succ]
          refine wpAnyH_take (i := 1) (v := ?_) rfl (by kernel_rfl) (by kernel_rfl) (by kernel_rfl) (fun _ _ _ h => h) (Or.inl ⟨by rfl, ?_⟩) hHeld ?_
          rotate_left
          · intro w hSw
            have hSw1 := hSw
            clear hSw
            have hc := hSw1.out.ln
            have hlt := hSw1.out.lt
            go_simp
            try (with_reducible rfl)
          try simp only [Act.put, List.setIfInBounds_toArray, List.set_cons_zero, List.set_cons_succ, List.getElem_toArray, List.getElem_cons_zero, List.getElem_cons_succ]
          refine wpAnyH_take (i := 3) (v := ?_) rfl (by kernel_rfl) (by kernel_rfl) (by kernel_rfl) (fun _ _ _ h => h) (Or.inl ⟨by rfl, ?_⟩) hHeld ?_
          rotate_left
          · intro w hSw
            have hSw1 := hSw
            clear hSw
            try dsimp only at hSw1
            go_simp
            try (with_reducible rfl)
          try simp only [Act.put, List.setIfInBounds_toArray, List.set_cons_zero, List.set_cons_succ, List.getElem_toArray, List.getElem_cons_zero, List.getElem_cons_succ]
          refine wpAnyH_take (i := 4) (v := ?_) rfl (by kernel_rfl) (by kernel_rfl) (by kernel_rfl) (fun _ _ _ h => h) (Or.inl ⟨by rfl, ?_⟩) hHeld ?_
          rotate_left
          · intro w hSw
            have hSw1 := hSw
            clear hSw
            have hc := hSw1.out.ln
            have hlt := hSw1.out.lt
            go_simp
            try (with_reducible rfl)
          try simp only [Act.put, List.setIfInBounds_toArray, List.set_cons_zero, List.set_cons_succ, List.getElem_toArray, List.getElem_cons_zero, List.getElem_cons_succ]
          refine wpAnyH_ready (rs := [2]) (by kernel_rfl) (by simp) ?_
          refine AllReadyH.cons rfl (fun K hK => ?_) AllReadyH.nil
          go_simp
          refine (trio_add1 HT.out x HO1.out LX.out HH1.out).mono ?_; rintro e VTA ⟨rfl, t1⟩; have TA := Lib.hid t1; clear t1
          go_wp2_with fail
          refine hK.out _ _ (Lib.hid TA.out.blk) (fun hHeld2 => ?_)
          clear hK K hHeld
          try simp only [Act.put, List.setIfInBounds_toArray, List.set_cons_zero, List.set_cons_succ, List.getElem_toArray, List.getElem_cons_zero, List.getElem_cons_succ]
          refine wpAnyH_ready (rs := [5]) (by kernel_rfl) (by simp) ?_
          refine AllReadyH.cons rfl (fun K hK => ?_) AllReadyH.nil
          go_simp
          refine (trio_add2 TA.out x HO2.out LX.out HH2.out).mono ?_; rintro e VTB ⟨rfl, t1⟩; have TB := Lib.hid t1; clear t1
          go_wp2_with fail
          refine hK.out _ _ (Lib.hid TB.out.blk) (fun hHeld3 => ?_)
          clear hK K hHeld2
          try simp only [Act.put, List.setIfInBounds_toArray, List.set_cons_zero, List.set_cons_succ, List.getElem_toArray, List.getElem_cons_zero, List.getElem_cons_succ]
          refine wpAnyH_take (i := 6) (v := ?_) rfl (by kernel_rfl) (by kernel_rfl) (by kernel_rfl) (fun _ _ _ h => h) (Or.inl ⟨by rfl, ?_⟩) hHeld3 ?_
          rotate_left
          · intro w hSw
            have hSw1 := hSw
            clear hSw
            try dsimp only at hSw1
            go_simp
            try (with_reducible rfl)
          try simp only [Act.put, List.setIfInBounds_toArray, List.set_cons_zero, List.set_cons_succ, List.getElem_toArray, List.getElem_cons_zero, List.getElem_cons_succ]
          refine wpAnyH_done (by kernel_rfl) ?_ _
          go_wp2_with fail
          go_roundw
          case rel => exact ⟨k + 1, addL c x, by go_num, by omega, TB.out.pair, HW.out.2.1.add x, by rw [addL_base]; exact HW.out.2.2⟩
          case measure => simp [intOf]; omega
        · obtain rfl : k = l.length := by omega
          go_wp2_with fail
          refine (pair_cut2 HW.out.1 n (HW.out.2.1.ok (by omega))).mono ?_
          rintro e w4 ⟨rfl, hp4⟩
          have HP : Hid (Pair w1 w4 p q c (cutL c n) ∧ Fit c 60 ∧ Fit (cutL c n) 60 ∧ CutRel c (cutL c n) ∧ c.base = ⟨0, zeros⟩) := ⟨hp4, HW.out.2.1.more hl60, (HW.out.2.1.more hl60).cut n (by rw [HW.out.2.2]), CutRel.cut c n, HW.out.2.2⟩
          clear hp4 HW
          go_wp2_with fail
          go_loopw [50] (fun i W => ∃ (k : Nat) (c d : Ch), i = .int .i64 k ∧ k ≤ m.length ∧ Hid (Pair w1 W p q c d ∧ Fit c (60 + k) ∧ Fit d (60 + k) ∧ CutRel c d ∧ c.base = ⟨0, zeros⟩)) (fun i _ => m.length - (intOf i).toNat)
          case atStart => exact ⟨0, c, cutL c n, rfl, by omega, HP.out⟩
          case round =>
            clear HP
            rename World => W
            obtain ⟨k, c, d, rfl, hk, HW⟩ := hrel
            have hm60 := GM.out.1
            by_cases hlt : k < m.length
            · have hlt' : (k : Int) < m.length := by omega
              obtain ⟨x, hx⟩ : ∃ x, m[k]? = some x := ⟨_, List.getElem?_eq_getElem hlt⟩
              have hrd := H1.out.2.1.step0 HW.out.1.out
              obtain ⟨g, off, rfl⟩ := hrd.some_ (by omega)
              have cx := rd_line hrd hx
              have gl : g < W.heap.size := by have := World.block_lt_of_cell? _ _ cx.1; simpa using this
              have LX := Lib.hid (GM.out.2 x (List.mem_of_getElem? hx))
              clear hx hrd
              go_upto_region 16 with fail
              clear cx gl
              obtain ⟨b, hb⟩ : ∃ b, b = W.heap.size := ⟨_, rfl⟩
              have HT : Hid (Trio w1 (W.alloc (.cells (lnc x).toArray 32)).drew p q c d b x) := Lib.hid (by rw [hb]; exact (HW.out.1.trio x).quiet ((Step.refl [] _).drew))
              obtain ⟨V, hV⟩ : ∃ V, V = W.alloc (.cells (lnc x).toArray 32) := ⟨_, rfl⟩
              rw [show W.alloc (.cells #[.int .i64 x.index, .int .i64 x.client, .int .i64 x.seq, Str x.user, .int .i64 x.kind, .int .i64 x.err, Str x.digest, Str x.hash] 32) = V from hV.symm]
              rw [← hV] at HT
              rw [← hb]
              clear hV hb
              have HO1 : Hid (ChOk c) := HW.out.2.1.ok (by omega)
              have HO2 : Hid (ChOk d) := HW.out.2.2.1.ok (by omega)
              have HH1 : Hid ((headL c.base c.ls).hash.length ≤ 1073741824) := HW.out.2.1.hash
              have HH2 : Hid ((headL d.base d.ls).hash.length ≤ 1073741824) := HW.out.2.2.1.hash
              refine wp_region_held_drew (S := fun V => Hid (Blk V b 32 (lnc x).toArray)) (by kernel_rfl) (Lib.hid HT.out.blk) (fun hHeld => ?_)
              refine wpAnyH_take (i := 0) (v := ?_) rfl (by kernel_rfl) (by kernel_rfl) (by kernel_rfl) (fun _ _ _ h => h) (Or.inl ⟨by rfl, ?_⟩) hHeld ?_
              rotate_left
              · intro w hSw
                have hSw1 := hSw
                clear hSw
                try dsimp only at hSw1
                go_simp
                try (with_reducible rfl)
              try simp only [Act.put, List.setIfInBounds_toArray, List.set_cons_zero, List.set_cons_succ, List.getElem_toArray, List.getElem_cons_zero, List.getElem_cons_succ]
              refine wpAnyH_take (i := 1) (v := ?_) rfl (by kernel_rfl) (by kernel_rfl) (by kernel_rfl) (fun _ _ _ h => h) (Or.inl ⟨by rfl, ?_⟩) hHeld ?_
              rotate_left
              · intro w hSw
                have hSw1 := hSw
                clear hSw
                have hc := hSw1.out.ln
                have hlt := hSw1.out.lt
                go_simp
                try (with_reducible rfl)
              try simp only [Act.put, List.setIfInBounds_toArray, List.set_cons_zero, List.set_cons_succ, List.getElem_toArray, List.getElem_cons_zero, List.getElem_cons_succ]
              refine wpAnyH_take (i := 3) (v := ?_) rfl (by kernel_rfl) (by kernel_rfl) (by kernel_rfl) (fun _ _ _ h => h) (Or.inl ⟨by rfl, ?_⟩) hHeld ?_
              rotate_left
              · intro w hSw
                have hSw1 := hSw
                clear hSw
                try dsimp only at hSw1
                go_simp
                try (with_reducible rfl)
              try simp only [Act.put, List.setIfInBounds_toArray, List.set_cons_zero, List.set_cons_succ, List.getElem_toArray, List.getElem_cons_zero, List.getElem_cons_succ]
              refine wpAnyH_take (i := 4) (v := ?_) rfl (by kernel_rfl) (by kernel_rfl) (by kernel_rfl) (fun _ _ _ h => h) (Or.inl ⟨by rfl, ?_⟩) hHeld ?_
              rotate_left
              · intro w hSw
                have hSw1 := hSw
                clear hSw
                have hc := hSw1.out.ln
                have hlt := hSw1.out.lt
                go_simp
                try (with_reducible rfl)
              try simp only [Act.put, List.setIfInBounds_toArray, List.set_cons_zero, List.set_cons_succ, List.getElem_toArray, List.getElem_cons_zero, List.getElem_cons_succ]
              refine wpAnyH_ready (rs := [2]) (by kernel_rfl) (by simp) ?_
              refine AllReadyH.cons rfl (fun K hK => ?_) AllReadyH.nil
              go_simp
              refine (trio_add1 HT.out x HO1.out LX.out HH1.out).mono ?_; rintro e VTA ⟨rfl, t1⟩; have TA := Lib.hid t1; clear t1
              go_wp2_with fail
              refine hK.out _ _ (Lib.hid TA.out.blk) (fun hHeld2 => ?_)
              clear hK K hHeld
              try simp only [Act.put, List.setIfInBounds_toArray, List.set_cons_zero, List.set_cons_succ, List.getElem_toArray, List.getElem_cons_zero, List.getElem_cons_succ]
              refine wpAnyH_ready (rs := [5]) (by kernel_rfl) (by simp) ?_
              refine AllReadyH.cons rfl (fun K hK => ?_) AllReadyH.nil
              go_simp
              refine (trio_add2 TA.out x HO2.out LX.out HH2.out).mono ?_; rintro e VTB ⟨rfl, t1⟩; have TB := Lib.hid t1; clear t1
              go_wp2_with fail
              refine hK.out _ _ (Lib.hid TB.out.blk) (fun hHeld3 => ?_)
              clear hK K hHeld2
              try simp only [Act.put, List.setIfInBounds_toArray, List.set_cons_zero, List.set_cons_succ, List.getElem_toArray, List.getElem_cons_zero, List.getElem_cons_succ]
              refine wpAnyH_take (i := 6) (v := ?_) rfl (by kernel_rfl) (by kernel_rfl) (by kernel_rfl) (fun _ _ _ h => h) (Or.inl ⟨by rfl, ?_⟩) hHeld3 ?_
              rotate_left
              · intro w hSw
                have hSw1 := hSw
                clear hSw
                try dsimp only at hSw1
                go_simp
                try (with_reducible rfl)
              try simp only [Act.put, List.setIfInBounds_toArray, List.set_cons_zero, List.set_cons_succ, List.getElem_toArray, List.getElem_cons_zero, List.getElem_cons_succ]
              refine wpAnyH_take (i := 7) (v := ?_) rfl (by kernel_rfl) (by kernel_rfl) (by kernel_rfl) (fun _ _ _ h => h) (Or.inl ⟨by rfl, ?_⟩) hHeld3 ?_
              rotate_left
              · intro w hSw
                have hSw1 := hSw
                clear hSw
                try dsimp only at hSw1
                go_simp
                try (with_reducible rfl)
              try simp only [Act.put, List.setIfInBounds_toArray, List.set_cons_zero, List.set_cons_succ, List.getElem_toArray, List.getElem_cons_zero, List.getElem_cons_succ]
              refine wpAnyH_done (by kernel_rfl) ?_ _
              go_wp2_with fail
              · have HE : Hid (canAdd c x = canAdd d x) := Lib.hid (by assumption)
                go_roundw
                case rel => exact ⟨k + 1, addL c x, addL d x, by go_num, by omega, TB.out.pair, HW.out.2.1.add x, HW.out.2.2.1.add x, HW.out.2.2.2.1.add x HE.out, by rw [addL_base]; exact HW.out.2.2.2.2⟩
                case measure => simp [intOf]; omega
              · have HN : Hid (¬ canAdd c x = canAdd d x) := Lib.hid (by assumption)
                refine (pair_lines2 TB.out.pair ((HW.out.2.2.1.add x).ok (by omega))).mono ?_
                rintro e w5 ⟨⟨a5, c5, rfl, g5, P5⟩, k5⟩
                have H5 := Lib.hid P5.out
                have hle := HW.out.2.2.2.1.one x HN.out
                have hld : decide ((1 : Int) < ((addL d x).ls.length : Int)) = false := decide_eq_false (by omega)
                have hld2 : decide (1 < (addL d x).ls.length) = false := decide_eq_false (by omega)
                have hld3 : ¬ (1 < (addL d x).ls.length) := by omega
                have hbn := bne_of HN.out
                clear g5 P5 k5 HN
                go_wp2_with fail
                exact bodyPost_ret (results_tmp rfl _ _ _) rfl ⟨rfl, H1.out.2.2.trans H5.out⟩
            · obtain rfl : k = m.length := by omega
              have HO : Hid (ChOk c ∧ ChOk d) := ⟨HW.out.2.1.ok (by omega), HW.out.2.2.1.ok (by omega)⟩
              go_wp2_with fail
              refine (pair_head1 HW.out.1 HO.out.1).mono ?_
              rintro e w6 ⟨rfl, P6⟩
              have H6 := Lib.hid P6
              clear P6
              go_wp2_with fail
              refine (pair_head2 H6.out HO.out.2).mono ?_
              rintro e w7 ⟨rfl, P7⟩
              rw [← HW.out.2.2.2.1.head]
              have H7 := Lib.hid P7
              clear P7 H6
              obtain ⟨z, hz⟩ : ∃ z, z = headL c.base c.ls := ⟨_, rfl⟩
              rw [← hz]
              clear hz
              go_wp2_with fail
              refine (pair_base2 H7.out).mono ?_
              rintro e w8 ⟨rfl, P8⟩
              have H8 := Lib.hid P8
              clear P8 H7
              obtain ⟨k, hk0, hkl, hdrop⟩ := HW.out.2.2.2.1.last (by rw [HW.out.2.2.2.2])
              have HK := Lib.hid (And.intro hkl hdrop)
              rw [hk0]
              have hk1 : (k : Int) ≤ c.ls.length := by omega
              have hk2 : (0 : Int) ≤ k := by omega
              clear hk0 hdrop
              go_wp2_with fail
              have H9 : Hid (Pair w1 w8.drew p q c d) := Lib.hid (H8.out.quiet ((Step.refl [] _).drew))
              refine wp_region_held_drew (S := fun _ => Hid True) (by kernel_rfl) (Lib.hid trivial) (fun hHeld => ?_)
              refine wpAnyH_take (i := 0) (v := ?_) rfl (by kernel_rfl) (by kernel_rfl) (by kernel_rfl) (fun _ _ _ h => h) (Or.inl ⟨by rfl, ?_⟩) hHeld ?_
              rotate_left
              · intro w hSw
                have hSw1 := hSw
                clear hSw
                try dsimp only at hSw1
                go_simp
                try (with_reducible rfl)
              try simp only [Act.put, List.setIfInBounds_toArray, List.set_cons_zero, List.set_cons_succ, List.getElem_toArray, List.getElem_cons_zero, List.getElem_cons_succ]
              refine wpAnyH_take (i := 1) (v := ?_) rfl (by kernel_rfl) (by kernel_rfl) (by kernel_rfl) (fun _ _ _ h => h) (Or.inl ⟨by rfl, ?_⟩) hHeld ?_
              rotate_left
              · intro w hSw
                have hSw1 := hSw
                clear hSw
                try dsimp only at hSw1
                go_simp
                try (with_reducible rfl)
              try simp only [Act.put, List.setIfInBounds_toArray, List.set_cons_zero, List.set_cons_succ, List.getElem_toArray, List.getElem_cons_zero, List.getElem_cons_succ]
              refine wpAnyH_take (i := 2) (v := ?_) rfl (by kernel_rfl) (by kernel_rfl) (by kernel_rfl) (fun _ _ _ h => h) (Or.inl ⟨by rfl, ?_⟩) hHeld ?_
              rotate_left
              · intro w hSw
                have hSw1 := hSw
                clear hSw
                try dsimp only at hSw1
                go_simp
                try (with_reducible rfl)
              try simp only [Act.put, List.setIfInBounds_toArray, List.set_cons_zero, List.set_cons_succ, List.getElem_toArray, List.getElem_cons_zero, List.getElem_cons_succ]
              refine wpAnyH_take (i := 3) (v := ?_) rfl (by kernel_rfl) (by kernel_rfl) (by kernel_rfl) (fun _ _ _ h => h) (Or.inl ⟨by rfl, ?_⟩) hHeld ?_
              rotate_left
              · intro w hSw
                have hSw1 := hSw
                clear hSw
                try dsimp only at hSw1
                go_simp
                try (with_reducible rfl)
              try simp only [Act.put, List.setIfInBounds_toArray, List.set_cons_zero, List.set_cons_succ, List.getElem_toArray, List.getElem_cons_zero, List.getElem_cons_succ]
              refine wpAnyH_take (i := 4) (v := ?_) rfl (by kernel_rfl) (by kernel_rfl) (by kernel_rfl) (fun _ _ _ h => h) (Or.inl ⟨by rfl, ?_⟩) hHeld ?_
              rotate_left
              · intro w hSw
                have hSw1 := hSw
                clear hSw
                try dsimp only at hSw1
                go_simp
                try (with_reducible rfl)
              try simp only [Act.put, List.setIfInBounds_toArray, List.set_cons_zero, List.set_cons_succ, List.getElem_toArray, List.getElem_cons_zero, List.getElem_cons_succ]
              refine wpAnyH_take (i := 5) (v := ?_) rfl (by kernel_rfl) (by kernel_rfl) (by kernel_rfl) (fun _ _ _ h => h) (Or.inl ⟨by rfl, ?_⟩) hHeld ?_
              rotate_left
              · intro w hSw
                have hSw1 := hSw
                clear hSw
                try dsimp only at hSw1
                go_simp
                try (with_reducible rfl)
              try simp only [Act.put, List.setIfInBounds_toArray, List.set_cons_zero, List.set_cons_succ, List.getElem_toArray, List.getElem_cons_zero, List.getElem_cons_succ]
              refine wpAnyH_take (i := 6) (v := ?_) rfl (by kernel_rfl) (by kernel_rfl) (by kernel_rfl) (fun _ _ _ h => h) (Or.inl ⟨by rfl, ?_⟩) hHeld ?_
              rotate_left
              · intro w hSw
                have hSw1 := hSw
                clear hSw
                try dsimp only at hSw1
                go_simp
                try (with_reducible rfl)
              try simp only [Act.put, List.setIfInBounds_toArray, List.set_cons_zero, List.set_cons_succ, List.getElem_toArray, List.getElem_cons_zero, List.getElem_cons_succ]
              refine wpAnyH_take (i := 7) (v := ?_) rfl (by kernel_rfl) (by kernel_rfl) (by kernel_rfl) (fun _ _ _ h => h) (Or.inl ⟨by rfl, ?_⟩) hHeld ?_
              rotate_left
              · intro w hSw
                have hSw1 := hSw
                clear hSw
                try dsimp only at hSw1
                go_simp
                try (with_reducible rfl)
              try simp only [Act.put, List.setIfInBounds_toArray, List.set_cons_zero, List.set_cons_succ, List.getElem_toArray, List.getElem_cons_zero, List.getElem_cons_succ]
              refine wpAnyH_take (i := 8) (v := ?_) rfl (by kernel_rfl) (by kernel_rfl) (by kernel_rfl) (fun _ _ _ h => h) (Or.inl ⟨by rfl, ?_⟩) hHeld ?_
              rotate_left
              · intro w hSw
                have hSw1 := hSw
                clear hSw
                try dsimp only at hSw1
                go_simp
                try (with_reducible rfl)
              try simp only [Act.put, List.setIfInBounds_toArray, List.set_cons_zero, List.set_cons_succ, List.getElem_toArray, List.getElem_cons_zero, List.getElem_cons_succ]
              refine wpAnyH_take (i := 9) (v := ?_) rfl (by kernel_rfl) (by kernel_rfl) (by kernel_rfl) (fun _ _ _ h => h) (Or.inl ⟨by rfl, ?_⟩) hHeld ?_
              rotate_left
              · intro w hSw
                have hSw1 := hSw
                clear hSw
                try dsimp only at hSw1
                go_simp
                try (with_reducible rfl)
              try simp only [Act.put, List.setIfInBounds_toArray, List.set_cons_zero, List.set_cons_succ, List.getElem_toArray, List.getElem_cons_zero, List.getElem_cons_succ]
              refine wpAnyH_take (i := 11) (v := ?_) rfl (by kernel_rfl) (by kernel_rfl) (by kernel_rfl) (fun _ _ _ h => h) (Or.inl ⟨by rfl, ?_⟩) hHeld ?_
              rotate_left
              · intro w hSw
                have hSw1 := hSw
                clear hSw
                try dsimp only at hSw1
                go_simp
                try (with_reducible rfl)
              try simp only [Act.put, List.setIfInBounds_toArray, List.set_cons_zero, List.set_cons_succ, List.getElem_toArray, List.getElem_cons_zero, List.getElem_cons_succ]
              refine wpAnyH_take (i := 13) (v := ?_) rfl (by kernel_rfl) (by kernel_rfl) (by kernel_rfl) (fun _ _ _ h => h) (Or.inl ⟨by rfl, ?_⟩) hHeld ?_
              rotate_left
              · intro w hSw
                have hSw1 := hSw
                clear hSw
                try dsimp only at hSw1
                go_simp
                try (with_reducible rfl)
              try simp only [Act.put, List.setIfInBounds_toArray, List.set_cons_zero, List.set_cons_succ, List.getElem_toArray, List.getElem_cons_zero, List.getElem_cons_succ]
              refine wpAnyH_ready (rs := [10]) (by kernel_rfl) (by simp) ?_
              refine AllReadyH.cons rfl (fun K hK => ?_) AllReadyH.nil
              go_simp
              refine (pair_lines1 H9.out HO.out.1).mono ?_; rintro e w10 ⟨⟨a5, c5, rfl, g5, P5⟩, k5⟩; have H10 := Lib.hid (And.intro g5 P5); have hc5 := g5.le; have hc6 : (c.ls.length : Int) ≤ c5 := (by omega); clear g5 P5 k5
              go_wp2_with fail
              refine hK.out _ _ (Lib.hid trivial) (fun hHeld2 => ?_)
              clear hK K hHeld
              try simp only [Act.put, List.setIfInBounds_toArray, List.set_cons_zero, List.set_cons_succ, List.getElem_toArray, List.getElem_cons_zero, List.getElem_cons_succ]
              by_cases hck : c5 = k
              · refine wpAnyH_take (i := 12) (v := ?_) rfl (by kernel_rfl) (by kernel_rfl) (by kernel_rfl) (fun _ _ _ h => h) (Or.inl ⟨by rfl, ?_⟩) hHeld2 ?_
                rotate_left
                · intro w hSw
                  have hSw1 := hSw
                  clear hSw
                  try dsimp only at hSw1
                  go_simp
                  try (with_reducible rfl)
                try simp only [Act.put, List.setIfInBounds_toArray, List.set_cons_zero, List.set_cons_succ, List.getElem_toArray, List.getElem_cons_zero, List.getElem_cons_succ]
                refine wpAnyH_ready (rs := [14]) (by kernel_rfl) (by simp) ?_
                refine AllReadyH.cons rfl (fun K hK => ?_) AllReadyH.nil
                go_simp
                refine (pair_lines2 H10.out.2 HO.out.2).mono ?_; rintro e w11 ⟨⟨a6, c6, rfl, g6, P6⟩, k6⟩; have H11 := Lib.hid (And.intro (H10.out.1.step k6 (by simp)) (And.intro g6 P6)); clear g6 P6 k6
                go_wp2_with fail
                refine hK.out _ _ (Lib.hid trivial) (fun hHeld3 => ?_)
                clear hK K hHeld2
                try simp only [Act.put, List.setIfInBounds_toArray, List.set_cons_zero, List.set_cons_succ, List.getElem_toArray, List.getElem_cons_zero, List.getElem_cons_succ]
                have H12 : Hid (Row w11 8 a5 (c.ls.length - k) 0 (lncs (c.ls.drop k))) := Lib.hid (by have := row_drop H11.out.1 HK.out.1; rwa [if_pos hck, hck, Nat.sub_self] at this)
                refine wpAnyH_ready (rs := [15]) (by kernel_rfl) (by simp) ?_
                refine AllReadyH.cons rfl (fun K hK => ?_) AllReadyH.nil
                go_simp
                refine (same_drop H12.out H11.out.2.1 HK.out.2 (HO.out.1).len).mono ?_; rintro e w12 ⟨rfl, k12⟩; have H13 := Lib.hid ((H1.out.2.2.trans H11.out.2.2.out).trans k12); clear k12
                go_wp2_with fail
                refine hK.out _ _ (Lib.hid trivial) (fun hHeld4 => ?_)
                clear hK K hHeld3
                try simp only [Act.put, List.setIfInBounds_toArray, List.set_cons_zero, List.set_cons_succ, List.getElem_toArray, List.getElem_cons_zero, List.getElem_cons_succ]
                refine wpAnyH_take (i := 16) (v := ?_) rfl (by kernel_rfl) (by kernel_rfl) (by kernel_rfl) (fun _ _ _ h => h) (Or.inl ⟨by rfl, ?_⟩) hHeld4 ?_
                rotate_left
                · intro w hSw
                  have hSw1 := hSw
                  clear hSw
                  try dsimp only at hSw1
                  go_simp
                  try (with_reducible rfl)
                try simp only [Act.put, List.setIfInBounds_toArray, List.set_cons_zero, List.set_cons_succ, List.getElem_toArray, List.getElem_cons_zero, List.getElem_cons_succ]
                refine wpAnyH_take (i := 17) (v := ?_) rfl (by kernel_rfl) (by kernel_rfl) (by kernel_rfl) (fun _ _ _ h => h) (Or.inl ⟨by rfl, ?_⟩) hHeld4 ?_
                rotate_left
                · intro w hSw
                  have hSw1 := hSw
                  clear hSw
                  try dsimp only at hSw1
                  go_simp
                  try (with_reducible rfl)
                try simp only [Act.put, List.setIfInBounds_toArray, List.set_cons_zero, List.set_cons_succ, List.getElem_toArray, List.getElem_cons_zero, List.getElem_cons_succ]
                refine wpAnyH_done (by kernel_rfl) ?_ _
                go_wp2_with fail
                exact bodyPost_ret (results_tmp rfl _ _ _) rfl ⟨rfl, H13.out⟩
              · refine wpAnyH_take (i := 12) (v := ?_) rfl (by kernel_rfl) (by kernel_rfl) (by kernel_rfl) (fun _ _ _ h => h) (Or.inl ⟨by rfl, ?_⟩) hHeld2 ?_
                rotate_left
                · intro w hSw
                  have hSw1 := hSw
                  clear hSw
                  try dsimp only at hSw1
                  go_simp
                  try (with_reducible rfl)
                try simp only [Act.put, List.setIfInBounds_toArray, List.set_cons_zero, List.set_cons_succ, List.getElem_toArray, List.getElem_cons_zero, List.getElem_cons_succ]
                refine wpAnyH_ready (rs := [14]) (by kernel_rfl) (by simp) ?_
                refine AllReadyH.cons rfl (fun K hK => ?_) AllReadyH.nil
                go_simp
                refine (pair_lines2 H10.out.2 HO.out.2).mono ?_; rintro e w11 ⟨⟨a6, c6, rfl, g6, P6⟩, k6⟩; have H11 := Lib.hid (And.intro (H10.out.1.step k6 (by simp)) (And.intro g6 P6)); clear g6 P6 k6
                go_wp2_with fail
                refine hK.out _ _ (Lib.hid trivial) (fun hHeld3 => ?_)
                clear hK K hHeld2
                try simp only [Act.put, List.setIfInBounds_toArray, List.set_cons_zero, List.set_cons_succ, List.getElem_toArray, List.getElem_cons_zero, List.getElem_cons_succ]
                have H12 : Hid (Row w11 8 (a5.map (·.add (k * 8))) (c.ls.length - k) (c5 - k) (lncs (c.ls.drop k))) := Lib.hid (by have := row_drop H11.out.1 HK.out.1; rwa [if_neg hck] at this)
                refine wpAnyH_ready (rs := [15]) (by kernel_rfl) (by simp) ?_
                refine AllReadyH.cons rfl (fun K hK => ?_) AllReadyH.nil
                go_simp
                refine (same_drop H12.out H11.out.2.1 HK.out.2 (HO.out.1).len).mono ?_; rintro e w12 ⟨rfl, k12⟩; have H13 := Lib.hid ((H1.out.2.2.trans H11.out.2.2.out).trans k12); clear k12
                go_wp2_with fail
                refine hK.out _ _ (Lib.hid trivial) (fun hHeld4 => ?_)
                clear hK K hHeld3
                try simp only [Act.put, List.setIfInBounds_toArray, List.set_cons_zero, List.set_cons_succ, List.getElem_toArray, List.getElem_cons_zero, List.getElem_cons_succ]
                refine wpAnyH_take (i := 16) (v := ?_) rfl (by kernel_rfl) (by kernel_rfl) (by kernel_rfl) (fun _ _ _ h => h) (Or.inl ⟨by rfl, ?_⟩) hHeld4 ?_
                rotate_left
                · intro w hSw
                  have hSw1 := hSw
                  clear hSw
                  try dsimp only at hSw1
                  go_simp
                  try (with_reducible rfl)
                try simp only [Act.put, List.setIfInBounds_toArray, List.set_cons_zero, List.set_cons_succ, List.getElem_toArray, List.getElem_cons_zero, List.getElem_cons_succ]
                refine wpAnyH_take (i := 17) (v := ?_) rfl (by kernel_rfl) (by kernel_rfl) (by kernel_rfl) (fun _ _ _ h => h) (Or.inl ⟨by rfl, ?_⟩) hHeld4 ?_
                rotate_left
                · intro w hSw
                  have hSw1 := hSw
                  clear hSw
                  try dsimp only at hSw1
                  go_simp
                  try (with_reducible rfl)
                try simp only [Act.put, List.setIfInBounds_toArray, List.set_cons_zero, List.set_cons_succ, List.getElem_toArray, List.getElem_cons_zero, List.getElem_cons_succ]
                refine wpAnyH_done (by kernel_rfl) ?_ _
                go_wp2_with fail
                exact bodyPost_ret (results_tmp rfl _ _ _) rfl ⟨rfl, H13.out⟩

theorem AuditCuts_walk (v0 v1 v2 : Value) (w : World) {b0 b1 b2 : Nat} (hv0 : Value.okWide Try.prog w .any b0 27 v0) (h0 : Op Try.prog w 27 v0.cells.toList) (hv1 : Value.okWide Try.prog w .any b1 27 v1) (h1 : Op Try.prog w 27 v1.cells.toList) (hv2 : Value.okWide Try.prog w .any b2 3 v2) (h2 : Op Try.prog w 3 v2.cells.toList) :
    Calls Try.prog 4 #[v0, v1, v2] w fun e w' => e = .returned (.bool true) ∧ Below w.heap.size w w' := by
  obtain ⟨a, n, cap, rfl⟩ := okWide_slice Try.underlying27 hv0
  obtain ⟨a', cap', l, e, hl, hr, hx⟩ := op_lines h0
  injection e with e1 e2 e3
  subst e1 e2 e3
  obtain ⟨b, n2, capb, rfl⟩ := okWide_slice Try.underlying27 hv1
  obtain ⟨b', capb', m, e, hm, hr2, hy⟩ := op_lines h1
  injection e with e1 e2 e3
  subst e1 e2 e3
  obtain ⟨k, rfl⟩ := okWide_int Try.underlying3 hv2
  exact (cuts19_any l m _ _ _ _ k w hr hr2 hl hm hx hy).mono fun e w' ⟨he, k⟩ => ⟨he, k.below0⟩

set_option maxRecDepth 100000 in
theorem AuditCuts_lifted (os : Os) (started : os.Started) (H : Type) (enc : TypeId × Value → H) :
    ReturnsInHanded {} Try.checked os 4 .any (Rows.auditCutsSpec.pre6 enc Try.prog Try.f4 Rows.auditCutsRow.domain false) (Rows.auditCutsSpec.post enc Try.prog Try.f4 false true false false) := by
  refine returnsInHanded_of_change_sized (C := Try.checked) (by kernel_rfl) started (by kernel_rfl) Try.func4
    (ChangeSpec.witness6 (enc := enc) (C := Try.checked) false ⟨#[], #[.slice none 0 0, .slice none 0 0, .int .i64 0], []⟩ 8 (by kernel_rfl) (by kernel_rfl) (by kernel_rfl) (by kernel_rfl)) ?_
  intro W base args ds gs before hval0 hW hcnd hsz0 _
  have hval : ∀ (j : Nat) t v, Try.f4.params[j]? = some t → args[j]? = some v → Value.okWide Try.prog W .any base t v := hval0
  have hsz : (DataW.weightsEach Try.prog (Try.f4.params.toList ++ Rows.auditCutsSpec.plain.varTypes Try.prog) (ds ++ gs)).all (· ≤ reachBytes) = true := hsz0
  have hW' := hW
  obtain ⟨p, q, hA0, hV, rfl, hfz, hnd⟩ := hW
  have hA : DataW.TrodAll enc Try.prog W 0 (fun _ => true) true Try.f4.params.toList args.toList ds p := hA0
  rw [Try.params4] at hA hval hsz
  obtain ⟨v0, vs0, d0, ds0, p0, q0, hargs, rfl, rfl, h0, r0⟩ := trodAll_cons hA
  obtain ⟨v1, vs1, d1, ds1, p1, q1, rfl, rfl, rfl, h1, r1⟩ := trodAll_cons r0
  obtain ⟨v2, vs2, d2, ds2, p2, q2, rfl, rfl, rfl, h2, r2⟩ := trodAll_cons r1
  obtain ⟨rfl, rfl, rfl⟩ := trodAll_nil r2
  obtain rfl : args = #[v0, v1, v2] := by cases args; simp_all
  obtain ⟨rfl, rfl⟩ := trodVars_none hV
  have lt0 : ∀ x ∈ p0, x.block < W.heap.size := by obtain ⟨m, hm⟩ := h0; exact DataW.trod_lt m _ _ _ hm
  have o0 := op_of hsz (j := 0) rfl rfl h0
  have lt1 : ∀ x ∈ p1, x.block < W.heap.size := by obtain ⟨m, hm⟩ := h1; exact DataW.trod_lt m _ _ _ hm
  have o1 := op_of hsz (j := 1) rfl rfl h1
  have lt2 : ∀ x ∈ p2, x.block < W.heap.size := by obtain ⟨m, hm⟩ := h2; exact DataW.trod_lt m _ _ _ hm
  have o2 := op_of hsz (j := 2) rfl rfl h2
  refine (AuditCuts_walk v0 v1 v2 W (hval 0 _ v0 rfl rfl) o0 (hval 1 _ v1 rfl rfl) o1 (hval 2 _ v2 rfl rfl) o2).mono fun e W' ⟨he, bel⟩ => ?_
  subst he
  exact ⟨_, rfl, _, _, _, [], _, [], hW', trodAll_mk1 (shut_bool Try.underlying4 _), (trodAll_cons_mk (Below.trod (by kernel_rfl) (by kernel_rfl) (of_decide_eq_true (by kernel_rfl)) h0 bel lt0) (trodAll_cons_mk (Below.trod (by kernel_rfl) (by kernel_rfl) (of_decide_eq_true (by kernel_rfl)) h1 bel lt1) (trodAll_cons_mk (Below.trod (by kernel_rfl) (by kernel_rfl) (of_decide_eq_true (by kernel_rfl)) h2 bel lt2) trodAll_mk0))), rfl, bel.frame _, fun h => by cases h⟩

/-- The statement. -/
theorem AuditCuts_holds : Rows.AuditCutsSaid :=
  OpenClaim.holds_of_wide 4 Try.f4 rfl rfl rfl rfl rfl rfl rfl ⟨rfl, rfl, rfl, rfl, rfl⟩ rfl rfl rfl rfl rfl (by kernel_rfl) Try.func4 (by kernel_rfl)
    (of_decide_eq_true (by kernel_rfl)) (by unfold Func.isWrapper; rw [if_neg (of_decide_eq_false (by kernel_rfl))]; exact ⟨rfl, rfl⟩)
    (fun os started H enc _ => AuditCuts_lifted os started H enc)
#print axioms AuditCuts_holds
end Go.Proofs.Ytdiacfbflbenoaa
