/-
  AuditPlays: whatever is added and cut, a chain is what the document says, and verified. No condition beyond the row's.
-/
import Derived.Test.YtdiacfbflbenoaaAuditPl
import Derived.Test.YtdiacfbflbenoaaAuditOpen2
import Derived.Test.YtdiacfbflbenoaaRows
import Derived.Deep.DeepCutAuto
namespace Go.Proofs.Ytdiacfbflbenoaa
open Go.RowKit Go.Lib Go.ChangeShapes Go.WideShapes Go.ChangeAt
set_option linter.unusedSimpArgs false
set_option linter.unusedVariables false
set_option maxRecDepth 100000

theorem Op.fieldN {P : Program} {w : World} {t : TypeId} {cs : List Value} {fs : Array Field} (ht : P.underlying t = some (.struct fs)) (h : Op P w t cs) (i off : Nat) (T : TypeId) (hf : (fs[i]?).map (fun f => (f.offset, f.type)) = some (off, T)) : Op P w T ((cs.drop off).take (P.cellsOf T)) := by
  cases hfi : fs[i]? with
  | none => simp [hfi] at hf
  | some f =>
    simp only [hfi, Option.map_some, Option.some.injEq, Prod.mk.injEq] at hf
    have := (h.struct ht).2 i f hfi
    rwa [hf.1, hf.2] at this
theorem flat_get {α : Type} (f : α → List Value) (sz : Nat) (hf : ∀ x, (f x).length = sz) (l : List α) (i : Nat) (x : α) (h : l[i]? = some x) (j : Nat) (hj : j < sz) : (l.flatMap f)[i * sz + j]? = (f x)[j]? := by
  induction l generalizing i with
  | nil => simp at h
  | cons y l ih =>
    cases i with
    | zero =>
      simp at h
      subst h
      rw [List.flatMap_cons, List.getElem?_append_left (by rw [hf]; omega)]
      simp
    | succ i =>
      simp at h
      rw [List.flatMap_cons, List.getElem?_append_right (by rw [hf, Nat.succ_mul]; omega), hf, ← ih i h]
      congr 1
      rw [Nat.succ_mul]
      omega
def opcs (l : List OpL) : List Value := l.flatMap opc
theorem opc_len (o : OpL) : (opc o).length = 10 := rfl
theorem letter {K : Act → World → Prop} {a : Act} {w : World} (h : ∀ U, U = w → K a U) : K a w := h w rfl
theorem set3 {w : World} {b : Nat} {T : TypeId} {x y z : Value} (h : Blk w b T #[x, y, z]) (u v t : Value) : Blk (((w.setCell ⟨b, 0, none⟩ u).setCell ⟨b, 1, none⟩ v).setCell ⟨b, 2, none⟩ t) b T #[u, v, t] := by
  simpa using ((Blk.set h 0 u).set 1 v).set 2 t
def OpIn (o : OpL) : Prop := LnIn o.l ∧ (-9223372036854775808 ≤ o.k ∧ o.k < 9223372036854775808) ∧ (-9223372036854775808 ≤ o.n ∧ o.n < 9223372036854775808)
theorem op_op {w : World} {cs : List Value} (h : Op Try.prog w 34 cs) : ∃ o : OpL, cs = opc o ∧ OpIn o := by
  obtain ⟨hl, _⟩ := h.struct Try.underlying34
  rw [show Try.prog.cellsOf 34 = 10 by kernel_rfl] at hl
  have g0 := h.fieldN Try.underlying34 0 0 3 rfl
  have g1 := h.fieldN Try.underlying34 1 1 32 rfl
  have g2 := h.fieldN Try.underlying34 2 9 3 rfl
  rw [show Try.prog.cellsOf 3 = 1 by kernel_rfl] at g0 g2
  rw [show Try.prog.cellsOf 32 = 8 by kernel_rfl] at g1
  obtain ⟨k, e0, w0⟩ := g0.int Try.underlying3
  obtain ⟨n, e2, w2⟩ := g2.int Try.underlying3
  obtain ⟨x, e1, hx⟩ := op_line g1
  refine ⟨⟨k, x, n⟩, ?_, hx, wf_int64 w0, wf_int64 w2⟩
  have h1 : cs = (cs.drop 0).take 1 ++ (cs.drop 1).take 8 ++ (cs.drop 9).take 1 := by
    apply List.ext_getElem?
    intro i
    match cs, hl with
    | [a0, a1, a2, a3, a4, a5, a6, a7, a8, a9], _ => rfl
  rw [h1, e0, e1, e2]
  rfl
theorem op_ops {w : World} {v : Value} (h : Op Try.prog w 22 [v]) : ∃ (a : Option Addr) (cap : Nat) (l : List OpL), v = .slice a l.length cap ∧ l.length ≤ 140737488351232 ∧ Rd w 10 a l.length (opcs l) ∧ ∀ x ∈ l, OpIn x := by
  obtain ⟨a, n, cap, e, h1, h2, h3, h4⟩ := h.slice Try.underlying22 (sz := 10) (by kernel_rfl)
  obtain ⟨l, hl, hr, hq⟩ := rd_of (w := w) opc 10 (by omega) (fun _ => rfl) OpIn (n := n) (a := a) (fun i hi => by
    obtain ⟨cs', hl', hc, ho⟩ := h4 i hi
    obtain ⟨x, hx, hok⟩ := op_op ho
    subst hx
    exact ⟨x, hc, hok⟩)
  subst hl
  simp at e
  refine ⟨a, cap, l, e, ?_, hr, hq⟩
  have hb : Try.prog.bytesOf 34 = 104 := by kernel_rfl
  rw [hb] at h3
  omega
theorem rd_op {w : World} {l : List OpL} {g off : Nat} {sp n} (h : Rd w 10 (some ⟨g, off, sp⟩) n (opcs l)) {k : Nat} {x : OpL} (hx : l[k]? = some x) (j : Nat) (hj : j < 10) {u : Value} (hu : (opc x)[j]? = some u) : w.cell? ⟨g, off + k * 10 + j, none⟩ = some u := by
  have := h.cell g off sp rfl (k * 10 + j) u ((flat_get opc 10 opc_len l k x hx j hj).trans hu)
  rwa [← Nat.add_assoc] at this
/-- What the loop keeps of a chain. -/
structure Fit2 (c : Ch) (k : Nat) : Prop where
  base : 0 ≤ c.base.count ∧ c.base.count + c.ls.length ≤ k
  hash : (headL c.base c.ls).hash.length ≤ 1073741824
  bash : c.base.hash.length ≤ 1073741824
  ok : ∀ y ∈ c.ls, LnOk y
  inv : Inv c
theorem Fit2.chok {c : Ch} {k : Nat} (h : Fit2 c k) (hk : k ≤ 1000) : ChOk c := ⟨by have := h.base; omega, by have := h.base; omega⟩
theorem added_ok {c : Ch} {x : Ln} (h : LnOk x) : LnOk (addedL c x) := ⟨h.index, h.client, h.seq, h.kind, h.err, h.user, h.digest, by show (nextL _ _ _).length ≤ _; rw [next_len]; omega⟩
theorem Fit2.add {c : Ch} {k : Nat} (h : Fit2 c k) (x : Ln) (hx : LnOk x) : Fit2 (addL c x) (k + 1) := by
  refine ⟨by rw [addL_base]; have := addL_len c x; have := h.base; omega, ?_, by rw [addL_base]; exact h.bash, ?_, h.inv.add x⟩
  · unfold addL
    split
    · show (headL c.base (c.ls ++ [addedL c x])).hash.length ≤ _
      rw [headL_snoc]
      show (nextL _ _ _).length ≤ _
      rw [next_len]
      omega
    · exact h.hash
  · unfold addL
    split
    · intro y hy
      rcases List.mem_append.1 hy with hy | hy
      · exact h.ok y hy
      · simp at hy; subst hy; exact added_ok hx
    · exact h.ok
theorem Fit2.cut {c : Ch} {k : Nat} (h : Fit2 c k) (n : Int) : Fit2 (cutL c n) (k + 1) := by
  have hb := h.base
  have hi := h.inv.cut n
  refine ⟨?_, by rw [← (CutRel.cut c n).head]; exact h.hash, ?_, ?_, hi⟩
  · unfold cutL
    split
    · show 0 ≤ (headL c.base _).count ∧ (headL c.base _).count + _ ≤ _
      rw [headL_count, List.length_take, List.length_drop]
      omega
    · omega
  · have := hi.base
    simp only [baseOk, Bool.and_eq_true, decide_eq_true_eq] at this
    omega
  · unfold cutL
    split
    · intro y hy; exact h.ok y (List.mem_of_mem_drop hy)
    · exact h.ok
theorem Fit2.new : Fit2 newL 0 := ⟨by simp [newL], by decide, by decide, by simp [newL], Inv.new⟩
theorem PlA.blk {w0 w : World} {p b bo : Nat} {c d : Ch} {a : Option Addr} {cap : Nat} {o : OpL} (h : PlA w0 w p b c d a cap bo o) : Blk w bo 34 (opc o).toArray := by
  obtain ⟨S, h⟩ := h
  exact h.2.2.2.2.2.2.1
theorem PlA.chb {w0 w : World} {p b bo : Nat} {c d : Ch} {a : Option Addr} {cap : Nat} {o : OpL} (h : PlA w0 w p b c d a cap bo o) : Blk w b 29 (chc d a cap) := by
  obtain ⟨S, h⟩ := h
  exact h.2.1
theorem PlR.chb {w0 w : World} {p b bo : Nat} {c d d' : Ch} {a a' : Option Addr} {cap cap' : Nat} {o : OpL} (h : PlR w0 w p b c d d' a cap bo o a' cap') : Blk w b 29 (chc d a cap) := by
  obtain ⟨S, h, _⟩ := h
  exact h.2.1
theorem Blk.op {w : World} {b : Nat} {T : TypeId} {o : OpL} (h : Blk w b T (opc o).toArray) : w.cell? ⟨b, 0, none⟩ = some (.int .i64 o.k) ∧ w.cell? ⟨b, 1, none⟩ = some (.int .i64 o.l.index) ∧ w.cell? ⟨b, 2, none⟩ = some (.int .i64 o.l.client) ∧ w.cell? ⟨b, 3, none⟩ = some (.int .i64 o.l.seq) ∧ w.cell? ⟨b, 4, none⟩ = some (Str o.l.user) ∧
    w.cell? ⟨b, 5, none⟩ = some (.int .i64 o.l.kind) ∧ w.cell? ⟨b, 6, none⟩ = some (.int .i64 o.l.err) ∧ w.cell? ⟨b, 7, none⟩ = some (Str o.l.digest) ∧ w.cell? ⟨b, 8, none⟩ = some (Str o.l.hash) ∧ w.cell? ⟨b, 9, none⟩ = some (.int .i64 o.n) := by
  refine ⟨?_, ?_, ?_, ?_, ?_, ?_, ?_, ?_, ?_, ?_⟩ <;> (rw [h.cell]; rfl)
theorem Blk.ch {w : World} {b : Nat} {T : TypeId} {d : Ch} {a : Option Addr} {cap : Nat} (h : Blk w b T (chc d a cap)) : w.cell? ⟨b, 0, none⟩ = some (.int .i64 d.base.count) ∧ w.cell? ⟨b, 1, none⟩ = some (Str d.base.hash) ∧ w.cell? ⟨b, 2, none⟩ = some (.slice a d.ls.length cap) := by
  refine ⟨?_, ?_, ?_⟩ <;> (rw [h.cell]; rfl)
set_option maxHeartbeats 8000000 in
theorem plays19_any (l : List OpL) (a : Option Addr) (ca : Nat) (w : World) (hl : Rd w 10 a l.length (opcs l)) (h1 : l.length ≤ 140737488351232) (hx : ∀ x ∈ l, OpIn x) :
    Calls Try.prog 3 #[.slice a l.length ca] w fun e w' => e = .returned (.bool true) ∧ Step [] [] w w' := by
  have H0 := Lib.hid (And.intro hl hx)
  clear hl hx
  go_enter Try.func3, Try.ntmps3
  go_wp2_with fail
  refine (awake19_true w).mono ?_
  rintro e w1 ⟨rfl, k1⟩
  have H1 : Hid (Rd w1 10 a l.length (opcs l) ∧ Step [] [] w w1) := ⟨H0.out.1.step0 k1, k1⟩
  clear k1
  go_upto_region 3 with fail
  go_cut [3, 4] (fun v3 v4 wx => ∃ p b, v3 = .pointer (some ⟨p, 0, none⟩) ∧ v4 = .pointer (some ⟨b, 0, none⟩) ∧ Hid (PlC w1 wx p b newL none 0))
  case first =>
    have S0 : Hid (Step [] [] w1 w1.drew) := Lib.hid ((Step.refl [] w1).drew)
    refine wp_region_held_drew (S := fun _ => Hid True) (by kernel_rfl) (Lib.hid trivial) (fun hHeld => ?_)
    refine wpAnyH_ready (rs := [0, 1, 4]) (by kernel_rfl) (by simp) ?_
    refine AllReadyH.cons rfl (fun K hK => ?_) (AllReadyH.cons rfl (fun K hK => ?_) (AllReadyH.cons rfl (fun K hK => ?_) (AllReadyH.nil)))
    · skip
      go_simp; refine (auditNew_any _).mono ?_; rintro e U1 ⟨p, rfl, hN, hk⟩; have S1 : Hid (Step [] [p] w1 U1) := (S0.out.trans (by simpa using hk.frame [])); have N1 := Lib.hid hN; clear hN hk; go_wp2_with fail
      refine hK.out _ _ (Lib.hid trivial) (fun hHeld2 => ?_)
      clear hK K hHeld
      try simp only [Act.put, List.setIfInBounds_toArray, List.set_cons_zero, List.set_cons_succ, List.getElem_toArray, List.getElem_cons_zero, List.getElem_cons_succ]
      refine wpAnyH_ready (rs := [1, 4]) (by kernel_rfl) (by simp) ?_
      refine AllReadyH.cons rfl (fun K hK => ?_) (AllReadyH.cons rfl (fun K hK => ?_) (AllReadyH.nil))
      · skip
        have hmk := mk32; go_simp; go_wp2_with fail; refine letter (K := K) ?_; intro U2 hU2; clear hmk; obtain ⟨z, hz⟩ : ∃ z, z = (U1).heap.size := ⟨_, rfl⟩; have S2 : Hid (Step [] [p] w1 U2) := (by rw [hU2]; exact S1.out.alloc _); have N2 : Hid (Chn U2 p [p] newL) := (by rw [hU2]; exact (N1.out).step ((Step.refl [] _).alloc _) (by simp)); have Z2 : Hid (Blk U2 z 5 Z32) := (by rw [hU2, hz]; exact Blk.new _ _ _); try rw [show U1.heap.size = z from hz.symm]; clear hU2 hz
        refine hK.out _ _ (Lib.hid trivial) (fun hHeld3 => ?_)
        clear hK K hHeld2
        try simp only [Act.put, List.setIfInBounds_toArray, List.set_cons_zero, List.set_cons_succ, List.getElem_toArray, List.getElem_cons_zero, List.getElem_cons_succ]
        refine wpAnyH_ready (rs := [2, 4]) (by kernel_rfl) (by simp) ?_
        refine AllReadyH.cons rfl (fun K hK => ?_) (AllReadyH.cons rfl (fun K hK => ?_) (AllReadyH.nil))
        · skip
          have hs := run_str_of_blk Z2.out 26 9 5 Try.underlying26 Try.underlying5 Try.underlying9 0 32 32 zeros rfl (by unfold Z32; rw [toList_madeCells_one]; rfl); go_simp; go_wp2_with fail; clear hs Z2
          refine hK.out _ _ (Lib.hid trivial) (fun hHeld4 => ?_)
          clear hK K hHeld3
          try simp only [Act.put, List.setIfInBounds_toArray, List.set_cons_zero, List.set_cons_succ, List.getElem_toArray, List.getElem_cons_zero, List.getElem_cons_succ]
          refine wpAnyH_take (i := 3) (v := ?_) rfl (by kernel_rfl) (by kernel_rfl) (by kernel_rfl) (fun _ _ _ h => h) (Or.inl ⟨by rfl, ?_⟩) hHeld4 ?_
          rotate_left
          · intro w hSw
            have hSw1 := hSw
            clear hSw
            try dsimp only at hSw1
            go_simp
            try (with_reducible rfl)
          try simp only [Act.put, List.setIfInBounds_toArray, List.set_cons_zero, List.set_cons_succ, List.getElem_toArray, List.getElem_cons_zero, List.getElem_cons_succ]
          refine wpAnyH_ready (rs := [4]) (by kernel_rfl) (by simp) ?_
          refine AllReadyH.cons rfl (fun K hK => ?_) AllReadyH.nil
          go_simp; go_wp2_with fail; refine letter (K := K) ?_; intro U3 hU3; obtain ⟨b, hb⟩ : ∃ b, b = (U2).heap.size := ⟨_, rfl⟩; have S3 : Hid (Step [] [b, p] w1 U3) := (by rw [hU3, hb]; exact S2.out.hold _); have NE : Hid (b ≠ p) := (by have := N2.out.lt p (by simp); rw [hb]; exact fun e => by omega); have N3 : Hid (Chn U3 p [p] newL) := (by rw [hU3]; exact (N2.out).step ((Step.refl [] _).alloc _) (by simp)); have B3 : Hid (Blk U3 b 29 #[.int .i64 0, Str [], .slice none 0 0]) := (by rw [hU3, hb]; exact Blk.new _ _ _); try rw [show U2.heap.size = b from hb.symm]; clear hU3 hb
          refine hK.out _ _ (Lib.hid trivial) (fun hHeld5 => ?_)
          clear hK K hHeld4
          try simp only [Act.put, List.setIfInBounds_toArray, List.set_cons_zero, List.set_cons_succ, List.getElem_toArray, List.getElem_cons_zero, List.getElem_cons_succ]
          refine wpAnyH_take (i := 5) (v := ?_) rfl (by kernel_rfl) (by kernel_rfl) (by kernel_rfl) (fun _ _ _ h => h) (Or.inl ⟨by rfl, ?_⟩) hHeld5 ?_
          rotate_left
          · intro w hSw
            have hSw1 := hSw
            clear hSw
            try dsimp only at hSw1
            go_simp
            try (with_reducible rfl)
          try simp only [Act.put, List.setIfInBounds_toArray, List.set_cons_zero, List.set_cons_succ, List.getElem_toArray, List.getElem_cons_zero, List.getElem_cons_succ]
          refine wpAnyH_ready (rs := [6]) (by kernel_rfl) (by simp) ?_
          refine AllReadyH.cons rfl (fun K hK => ?_) AllReadyH.nil
          have zc0 := B3.out.cell 0; have zc1 := B3.out.cell 1; have zc2 := B3.out.cell 2; have zf0 := B3.out.frozen 0; have zf1 := B3.out.frozen 1; have zf2 := B3.out.frozen 2; have zl := B3.out.lt; simp only [List.getElem?_toArray, List.getElem?_cons_zero, List.getElem?_cons_succ] at zc0 zc1 zc2; go_simp; go_wp2_with fail; refine letter (K := K) ?_; intro U4 hU4; clear zc0 zc1 zc2 zf0 zf1 zf2 zl; have ss : Step [b] [b] U3 U4 := (by rw [hU4]; exact (((Step.refl _ _).setCell (.inl (by simp)) _).setCell (.inl (by simp)) _).setCell (.inl (by simp)) _); have PC : Hid (PlC w1 U4 p b newL none 0) := ⟨[p], N3.out.step ss (by simpa using fun e => NE.out e.symm), (by rw [hU4]; exact set3 B3.out _ _ _), Row.none _ _, by simpa using NE.out, by simp [blks], (by rw [hU4]; exact (((S3.out.setCell (.inl (by simp)) _).setCell (.inl (by simp)) _).setCell (.inl (by simp)) _).drop (by intro g hg; simp at hg ⊢; rcases hg with h | h <;> simp [h]))⟩; clear ss hU4
          refine hK.out _ _ (Lib.hid trivial) (fun hHeld6 => ?_)
          clear hK K hHeld5
          try simp only [Act.put, List.setIfInBounds_toArray, List.set_cons_zero, List.set_cons_succ, List.getElem_toArray, List.getElem_cons_zero, List.getElem_cons_succ]
          refine wpAnyH_done (by kernel_rfl) ?_ _
          go_wp2_with fail
          go_meet
          exact ⟨p, b, rfl, rfl, PC.out⟩
        · skip
          go_simp; go_wp2_with fail; refine letter (K := K) ?_; intro U3 hU3; obtain ⟨b, hb⟩ : ∃ b, b = (U2).heap.size := ⟨_, rfl⟩; have S3 : Hid (Step [] [b, p] w1 U3) := (by rw [hU3, hb]; exact S2.out.hold _); have NE : Hid (b ≠ p) := (by have := N2.out.lt p (by simp); rw [hb]; exact fun e => by omega); have N3 : Hid (Chn U3 p [p] newL) := (by rw [hU3]; exact (N2.out).step ((Step.refl [] _).alloc _) (by simp)); have Z3 : Hid (Blk U3 z 5 Z32) := (by rw [hU3]; exact (Z2.out).alloc _); have B3 : Hid (Blk U3 b 29 #[.int .i64 0, Str [], .slice none 0 0]) := (by rw [hU3, hb]; exact Blk.new _ _ _); try rw [show U2.heap.size = b from hb.symm]; clear hU3 hb
          refine hK.out _ _ (Lib.hid trivial) (fun hHeld4 => ?_)
          clear hK K hHeld3
          try simp only [Act.put, List.setIfInBounds_toArray, List.set_cons_zero, List.set_cons_succ, List.getElem_toArray, List.getElem_cons_zero, List.getElem_cons_succ]
          refine wpAnyH_take (i := 5) (v := ?_) rfl (by kernel_rfl) (by kernel_rfl) (by kernel_rfl) (fun _ _ _ h => h) (Or.inl ⟨by rfl, ?_⟩) hHeld4 ?_
          rotate_left
          · intro w hSw
            have hSw1 := hSw
            clear hSw
            try dsimp only at hSw1
            go_simp
            try (with_reducible rfl)
          try simp only [Act.put, List.setIfInBounds_toArray, List.set_cons_zero, List.set_cons_succ, List.getElem_toArray, List.getElem_cons_zero, List.getElem_cons_succ]
          refine wpAnyH_ready (rs := [2]) (by kernel_rfl) (by simp) ?_
          refine AllReadyH.cons rfl (fun K hK => ?_) AllReadyH.nil
          have hs := run_str_of_blk Z3.out 26 9 5 Try.underlying26 Try.underlying5 Try.underlying9 0 32 32 zeros rfl (by unfold Z32; rw [toList_madeCells_one]; rfl); go_simp; go_wp2_with fail; clear hs Z3
          refine hK.out _ _ (Lib.hid trivial) (fun hHeld5 => ?_)
          clear hK K hHeld4
          try simp only [Act.put, List.setIfInBounds_toArray, List.set_cons_zero, List.set_cons_succ, List.getElem_toArray, List.getElem_cons_zero, List.getElem_cons_succ]
          refine wpAnyH_take (i := 3) (v := ?_) rfl (by kernel_rfl) (by kernel_rfl) (by kernel_rfl) (fun _ _ _ h => h) (Or.inl ⟨by rfl, ?_⟩) hHeld5 ?_
          rotate_left
          · intro w hSw
            have hSw1 := hSw
            clear hSw
            try dsimp only at hSw1
            go_simp
            try (with_reducible rfl)
          try simp only [Act.put, List.setIfInBounds_toArray, List.set_cons_zero, List.set_cons_succ, List.getElem_toArray, List.getElem_cons_zero, List.getElem_cons_succ]
          refine wpAnyH_ready (rs := [6]) (by kernel_rfl) (by simp) ?_
          refine AllReadyH.cons rfl (fun K hK => ?_) AllReadyH.nil
          have zc0 := B3.out.cell 0; have zc1 := B3.out.cell 1; have zc2 := B3.out.cell 2; have zf0 := B3.out.frozen 0; have zf1 := B3.out.frozen 1; have zf2 := B3.out.frozen 2; have zl := B3.out.lt; simp only [List.getElem?_toArray, List.getElem?_cons_zero, List.getElem?_cons_succ] at zc0 zc1 zc2; go_simp; go_wp2_with fail; refine letter (K := K) ?_; intro U4 hU4; clear zc0 zc1 zc2 zf0 zf1 zf2 zl; have ss : Step [b] [b] U3 U4 := (by rw [hU4]; exact (((Step.refl _ _).setCell (.inl (by simp)) _).setCell (.inl (by simp)) _).setCell (.inl (by simp)) _); have PC : Hid (PlC w1 U4 p b newL none 0) := ⟨[p], N3.out.step ss (by simpa using fun e => NE.out e.symm), (by rw [hU4]; exact set3 B3.out _ _ _), Row.none _ _, by simpa using NE.out, by simp [blks], (by rw [hU4]; exact (((S3.out.setCell (.inl (by simp)) _).setCell (.inl (by simp)) _).setCell (.inl (by simp)) _).drop (by intro g hg; simp at hg ⊢; rcases hg with h | h <;> simp [h]))⟩; clear ss hU4
          refine hK.out _ _ (Lib.hid trivial) (fun hHeld6 => ?_)
          clear hK K hHeld5
          try simp only [Act.put, List.setIfInBounds_toArray, List.set_cons_zero, List.set_cons_succ, List.getElem_toArray, List.getElem_cons_zero, List.getElem_cons_succ]
          refine wpAnyH_done (by kernel_rfl) ?_ _
          go_wp2_with fail
          go_meet
          exact ⟨p, b, rfl, rfl, PC.out⟩
      · skip
        go_simp; go_wp2_with fail; refine letter (K := K) ?_; intro U2 hU2; obtain ⟨b, hb⟩ : ∃ b, b = (U1).heap.size := ⟨_, rfl⟩; have S2 : Hid (Step [] [b, p] w1 U2) := (by rw [hU2, hb]; exact S1.out.hold _); have NE : Hid (b ≠ p) := (by have := N1.out.lt p (by simp); rw [hb]; exact fun e => by omega); have N2 : Hid (Chn U2 p [p] newL) := (by rw [hU2]; exact (N1.out).step ((Step.refl [] _).alloc _) (by simp)); have B2 : Hid (Blk U2 b 29 #[.int .i64 0, Str [], .slice none 0 0]) := (by rw [hU2, hb]; exact Blk.new _ _ _); try rw [show U1.heap.size = b from hb.symm]; clear hU2 hb
        refine hK.out _ _ (Lib.hid trivial) (fun hHeld3 => ?_)
        clear hK K hHeld2
        try simp only [Act.put, List.setIfInBounds_toArray, List.set_cons_zero, List.set_cons_succ, List.getElem_toArray, List.getElem_cons_zero, List.getElem_cons_succ]
        refine wpAnyH_take (i := 5) (v := ?_) rfl (by kernel_rfl) (by kernel_rfl) (by kernel_rfl) (fun _ _ _ h => h) (Or.inl ⟨by rfl, ?_⟩) hHeld3 ?_
        rotate_left
        · intro w hSw
          have hSw1 := hSw
          clear hSw
          try dsimp only at hSw1
          go_simp
          try (with_reducible rfl)
        try simp only [Act.put, List.setIfInBounds_toArray, List.set_cons_zero, List.set_cons_succ, List.getElem_toArray, List.getElem_cons_zero, List.getElem_cons_succ]
        refine wpAnyH_ready (rs := [1]) (by kernel_rfl) (by simp) ?_
        refine AllReadyH.cons rfl (fun K hK => ?_) AllReadyH.nil
        have hmk := mk32; go_simp; go_wp2_with fail; refine letter (K := K) ?_; intro U3 hU3; clear hmk; obtain ⟨z, hz⟩ : ∃ z, z = (U2).heap.size := ⟨_, rfl⟩; have S3 : Hid (Step [] [b, p] w1 U3) := (by rw [hU3]; exact S2.out.alloc _); have N3 : Hid (Chn U3 p [p] newL) := (by rw [hU3]; exact (N2.out).step ((Step.refl [] _).alloc _) (by simp)); have B3 : Hid (Blk U3 b 29 #[.int .i64 0, Str [], .slice none 0 0]) := (by rw [hU3]; exact (B2.out).alloc _); have Z3 : Hid (Blk U3 z 5 Z32) := (by rw [hU3, hz]; exact Blk.new _ _ _); try rw [show U2.heap.size = z from hz.symm]; clear hU3 hz
        refine hK.out _ _ (Lib.hid trivial) (fun hHeld4 => ?_)
        clear hK K hHeld3
        try simp only [Act.put, List.setIfInBounds_toArray, List.set_cons_zero, List.set_cons_succ, List.getElem_toArray, List.getElem_cons_zero, List.getElem_cons_succ]
        refine wpAnyH_ready (rs := [2]) (by kernel_rfl) (by simp) ?_
        refine AllReadyH.cons rfl (fun K hK => ?_) AllReadyH.nil
        have hs := run_str_of_blk Z3.out 26 9 5 Try.underlying26 Try.underlying5 Try.underlying9 0 32 32 zeros rfl (by unfold Z32; rw [toList_madeCells_one]; rfl); go_simp; go_wp2_with fail; clear hs Z3
        refine hK.out _ _ (Lib.hid trivial) (fun hHeld5 => ?_)
        clear hK K hHeld4
        try simp only [Act.put, List.setIfInBounds_toArray, List.set_cons_zero, List.set_cons_succ, List.getElem_toArray, List.getElem_cons_zero, List.getElem_cons_succ]
        refine wpAnyH_take (i := 3) (v := ?_) rfl (by kernel_rfl) (by kernel_rfl) (by kernel_rfl) (fun _ _ _ h => h) (Or.inl ⟨by rfl, ?_⟩) hHeld5 ?_
        rotate_left
        · intro w hSw
          have hSw1 := hSw
          clear hSw
          try dsimp only at hSw1
          go_simp
          try (with_reducible rfl)
        try simp only [Act.put, List.setIfInBounds_toArray, List.set_cons_zero, List.set_cons_succ, List.getElem_toArray, List.getElem_cons_zero, List.getElem_cons_succ]
        refine wpAnyH_ready (rs := [6]) (by kernel_rfl) (by simp) ?_
        refine AllReadyH.cons rfl (fun K hK => ?_) AllReadyH.nil
        have zc0 := B3.out.cell 0; have zc1 := B3.out.cell 1; have zc2 := B3.out.cell 2; have zf0 := B3.out.frozen 0; have zf1 := B3.out.frozen 1; have zf2 := B3.out.frozen 2; have zl := B3.out.lt; simp only [List.getElem?_toArray, List.getElem?_cons_zero, List.getElem?_cons_succ] at zc0 zc1 zc2; go_simp; go_wp2_with fail; refine letter (K := K) ?_; intro U4 hU4; clear zc0 zc1 zc2 zf0 zf1 zf2 zl; have ss : Step [b] [b] U3 U4 := (by rw [hU4]; exact (((Step.refl _ _).setCell (.inl (by simp)) _).setCell (.inl (by simp)) _).setCell (.inl (by simp)) _); have PC : Hid (PlC w1 U4 p b newL none 0) := ⟨[p], N3.out.step ss (by simpa using fun e => NE.out e.symm), (by rw [hU4]; exact set3 B3.out _ _ _), Row.none _ _, by simpa using NE.out, by simp [blks], (by rw [hU4]; exact (((S3.out.setCell (.inl (by simp)) _).setCell (.inl (by simp)) _).setCell (.inl (by simp)) _).drop (by intro g hg; simp at hg ⊢; rcases hg with h | h <;> simp [h]))⟩; clear ss hU4
        refine hK.out _ _ (Lib.hid trivial) (fun hHeld6 => ?_)
        clear hK K hHeld5
        try simp only [Act.put, List.setIfInBounds_toArray, List.set_cons_zero, List.set_cons_succ, List.getElem_toArray, List.getElem_cons_zero, List.getElem_cons_succ]
        refine wpAnyH_done (by kernel_rfl) ?_ _
        go_wp2_with fail
        go_meet
        exact ⟨p, b, rfl, rfl, PC.out⟩
    · skip
      have hmk := mk32; go_simp; go_wp2_with fail; refine letter (K := K) ?_; intro U1 hU1; clear hmk; obtain ⟨z, hz⟩ : ∃ z, z = (w1.drew).heap.size := ⟨_, rfl⟩; have hpu : w1.drew.heap.size = w1.heap.size := rfl; have S1 : Hid (Step [] [] w1 U1) := (by rw [hU1]; exact S0.out.alloc _); have Z1 : Hid (Blk U1 z 5 Z32) := (by rw [hU1, hz]; exact Blk.new _ _ _); try rw [show w1.heap.size = z from hz.symm]; clear hU1 hz
      refine hK.out _ _ (Lib.hid trivial) (fun hHeld2 => ?_)
      clear hK K hHeld
      try simp only [Act.put, List.setIfInBounds_toArray, List.set_cons_zero, List.set_cons_succ, List.getElem_toArray, List.getElem_cons_zero, List.getElem_cons_succ]
      refine wpAnyH_ready (rs := [0, 2, 4]) (by kernel_rfl) (by simp) ?_
      refine AllReadyH.cons rfl (fun K hK => ?_) (AllReadyH.cons rfl (fun K hK => ?_) (AllReadyH.cons rfl (fun K hK => ?_) (AllReadyH.nil)))
      · skip
        go_simp; refine (auditNew_any _).mono ?_; rintro e U2 ⟨p, rfl, hN, hk⟩; have S2 : Hid (Step [] [p] w1 U2) := (S1.out.trans (by simpa using hk.frame [])); have Z2 : Hid (Blk U2 z 5 Z32) := (Z1.out.step hk (by simp)); have N2 := Lib.hid hN; clear hN hk; go_wp2_with fail
        refine hK.out _ _ (Lib.hid trivial) (fun hHeld3 => ?_)
        clear hK K hHeld2
        try simp only [Act.put, List.setIfInBounds_toArray, List.set_cons_zero, List.set_cons_succ, List.getElem_toArray, List.getElem_cons_zero, List.getElem_cons_succ]
        refine wpAnyH_ready (rs := [2, 4]) (by kernel_rfl) (by simp) ?_
        refine AllReadyH.cons rfl (fun K hK => ?_) (AllReadyH.cons rfl (fun K hK => ?_) (AllReadyH.nil))
        · skip
          have hs := run_str_of_blk Z2.out 26 9 5 Try.underlying26 Try.underlying5 Try.underlying9 0 32 32 zeros rfl (by unfold Z32; rw [toList_madeCells_one]; rfl); go_simp; go_wp2_with fail; clear hs Z2
          refine hK.out _ _ (Lib.hid trivial) (fun hHeld4 => ?_)
          clear hK K hHeld3
          try simp only [Act.put, List.setIfInBounds_toArray, List.set_cons_zero, List.set_cons_succ, List.getElem_toArray, List.getElem_cons_zero, List.getElem_cons_succ]
          refine wpAnyH_take (i := 3) (v := ?_) rfl (by kernel_rfl) (by kernel_rfl) (by kernel_rfl) (fun _ _ _ h => h) (Or.inl ⟨by rfl, ?_⟩) hHeld4 ?_
          rotate_left
          · intro w hSw
            have hSw1 := hSw
            clear hSw
            try dsimp only at hSw1
            go_simp
            try (with_reducible rfl)
          try simp only [Act.put, List.setIfInBounds_toArray, List.set_cons_zero, List.set_cons_succ, List.getElem_toArray, List.getElem_cons_zero, List.getElem_cons_succ]
          refine wpAnyH_ready (rs := [4]) (by kernel_rfl) (by simp) ?_
          refine AllReadyH.cons rfl (fun K hK => ?_) AllReadyH.nil
          go_simp; go_wp2_with fail; refine letter (K := K) ?_; intro U3 hU3; obtain ⟨b, hb⟩ : ∃ b, b = (U2).heap.size := ⟨_, rfl⟩; have S3 : Hid (Step [] [b, p] w1 U3) := (by rw [hU3, hb]; exact S2.out.hold _); have NE : Hid (b ≠ p) := (by have := N2.out.lt p (by simp); rw [hb]; exact fun e => by omega); have N3 : Hid (Chn U3 p [p] newL) := (by rw [hU3]; exact (N2.out).step ((Step.refl [] _).alloc _) (by simp)); have B3 : Hid (Blk U3 b 29 #[.int .i64 0, Str [], .slice none 0 0]) := (by rw [hU3, hb]; exact Blk.new _ _ _); try rw [show U2.heap.size = b from hb.symm]; clear hU3 hb
          refine hK.out _ _ (Lib.hid trivial) (fun hHeld5 => ?_)
          clear hK K hHeld4
          try simp only [Act.put, List.setIfInBounds_toArray, List.set_cons_zero, List.set_cons_succ, List.getElem_toArray, List.getElem_cons_zero, List.getElem_cons_succ]
          refine wpAnyH_take (i := 5) (v := ?_) rfl (by kernel_rfl) (by kernel_rfl) (by kernel_rfl) (fun _ _ _ h => h) (Or.inl ⟨by rfl, ?_⟩) hHeld5 ?_
          rotate_left
          · intro w hSw
            have hSw1 := hSw
            clear hSw
            try dsimp only at hSw1
            go_simp
            try (with_reducible rfl)
          try simp only [Act.put, List.setIfInBounds_toArray, List.set_cons_zero, List.set_cons_succ, List.getElem_toArray, List.getElem_cons_zero, List.getElem_cons_succ]
          refine wpAnyH_ready (rs := [6]) (by kernel_rfl) (by simp) ?_
          refine AllReadyH.cons rfl (fun K hK => ?_) AllReadyH.nil
          have zc0 := B3.out.cell 0; have zc1 := B3.out.cell 1; have zc2 := B3.out.cell 2; have zf0 := B3.out.frozen 0; have zf1 := B3.out.frozen 1; have zf2 := B3.out.frozen 2; have zl := B3.out.lt; simp only [List.getElem?_toArray, List.getElem?_cons_zero, List.getElem?_cons_succ] at zc0 zc1 zc2; go_simp; go_wp2_with fail; refine letter (K := K) ?_; intro U4 hU4; clear zc0 zc1 zc2 zf0 zf1 zf2 zl; have ss : Step [b] [b] U3 U4 := (by rw [hU4]; exact (((Step.refl _ _).setCell (.inl (by simp)) _).setCell (.inl (by simp)) _).setCell (.inl (by simp)) _); have PC : Hid (PlC w1 U4 p b newL none 0) := ⟨[p], N3.out.step ss (by simpa using fun e => NE.out e.symm), (by rw [hU4]; exact set3 B3.out _ _ _), Row.none _ _, by simpa using NE.out, by simp [blks], (by rw [hU4]; exact (((S3.out.setCell (.inl (by simp)) _).setCell (.inl (by simp)) _).setCell (.inl (by simp)) _).drop (by intro g hg; simp at hg ⊢; rcases hg with h | h <;> simp [h]))⟩; clear ss hU4
          refine hK.out _ _ (Lib.hid trivial) (fun hHeld6 => ?_)
          clear hK K hHeld5
          try simp only [Act.put, List.setIfInBounds_toArray, List.set_cons_zero, List.set_cons_succ, List.getElem_toArray, List.getElem_cons_zero, List.getElem_cons_succ]
          refine wpAnyH_done (by kernel_rfl) ?_ _
          go_wp2_with fail
          go_meet
          exact ⟨p, b, rfl, rfl, PC.out⟩
        · skip
          go_simp; go_wp2_with fail; refine letter (K := K) ?_; intro U3 hU3; obtain ⟨b, hb⟩ : ∃ b, b = (U2).heap.size := ⟨_, rfl⟩; have S3 : Hid (Step [] [b, p] w1 U3) := (by rw [hU3, hb]; exact S2.out.hold _); have NE : Hid (b ≠ p) := (by have := N2.out.lt p (by simp); rw [hb]; exact fun e => by omega); have N3 : Hid (Chn U3 p [p] newL) := (by rw [hU3]; exact (N2.out).step ((Step.refl [] _).alloc _) (by simp)); have Z3 : Hid (Blk U3 z 5 Z32) := (by rw [hU3]; exact (Z2.out).alloc _); have B3 : Hid (Blk U3 b 29 #[.int .i64 0, Str [], .slice none 0 0]) := (by rw [hU3, hb]; exact Blk.new _ _ _); try rw [show U2.heap.size = b from hb.symm]; clear hU3 hb
          refine hK.out _ _ (Lib.hid trivial) (fun hHeld4 => ?_)
          clear hK K hHeld3
          try simp only [Act.put, List.setIfInBounds_toArray, List.set_cons_zero, List.set_cons_succ, List.getElem_toArray, List.getElem_cons_zero, List.getElem_cons_succ]
          refine wpAnyH_take (i := 5) (v := ?_) rfl (by kernel_rfl) (by kernel_rfl) (by kernel_rfl) (fun _ _ _ h => h) (Or.inl ⟨by rfl, ?_⟩) hHeld4 ?_
          rotate_left
          · intro w hSw
            have hSw1 := hSw
            clear hSw
            try dsimp only at hSw1
            go_simp
            try (with_reducible rfl)
          try simp only [Act.put, List.setIfInBounds_toArray, List.set_cons_zero, List.set_cons_succ, List.getElem_toArray, List.getElem_cons_zero, List.getElem_cons_succ]
          refine wpAnyH_ready (rs := [2]) (by kernel_rfl) (by simp) ?_
          refine AllReadyH.cons rfl (fun K hK => ?_) AllReadyH.nil
          have hs := run_str_of_blk Z3.out 26 9 5 Try.underlying26 Try.underlying5 Try.underlying9 0 32 32 zeros rfl (by unfold Z32; rw [toList_madeCells_one]; rfl); go_simp; go_wp2_with fail; clear hs Z3
          refine hK.out _ _ (Lib.hid trivial) (fun hHeld5 => ?_)
          clear hK K hHeld4
          try simp only [Act.put, List.setIfInBounds_toArray, List.set_cons_zero, List.set_cons_succ, List.getElem_toArray, List.getElem_cons_zero, List.getElem_cons_succ]
          refine wpAnyH_take (i := 3) (v := ?_) rfl (by kernel_rfl) (by kernel_rfl) (by kernel_rfl) (fun _ _ _ h => h) (Or.inl ⟨by rfl, ?_⟩) hHeld5 ?_
          rotate_left
          · intro w hSw
            have hSw1 := hSw
            clear hSw
            try dsimp only at hSw1
            go_simp
            try (with_reducible rfl)
          try simp only [Act.put, List.setIfInBounds_toArray, List.set_cons_zero, List.set_cons_succ, List.getElem_toArray, List.getElem_cons_zero, List.getElem_cons_succ]
          refine wpAnyH_ready (rs := [6]) (by kernel_rfl) (by simp) ?_
          refine AllReadyH.cons rfl (fun K hK => ?_) AllReadyH.nil
          have zc0 := B3.out.cell 0; have zc1 := B3.out.cell 1; have zc2 := B3.out.cell 2; have zf0 := B3.out.frozen 0; have zf1 := B3.out.frozen 1; have zf2 := B3.out.frozen 2; have zl := B3.out.lt; simp only [List.getElem?_toArray, List.getElem?_cons_zero, List.getElem?_cons_succ] at zc0 zc1 zc2; go_simp; go_wp2_with fail; refine letter (K := K) ?_; intro U4 hU4; clear zc0 zc1 zc2 zf0 zf1 zf2 zl; have ss : Step [b] [b] U3 U4 := (by rw [hU4]; exact (((Step.refl _ _).setCell (.inl (by simp)) _).setCell (.inl (by simp)) _).setCell (.inl (by simp)) _); have PC : Hid (PlC w1 U4 p b newL none 0) := ⟨[p], N3.out.step ss (by simpa using fun e => NE.out e.symm), (by rw [hU4]; exact set3 B3.out _ _ _), Row.none _ _, by simpa using NE.out, by simp [blks], (by rw [hU4]; exact (((S3.out.setCell (.inl (by simp)) _).setCell (.inl (by simp)) _).setCell (.inl (by simp)) _).drop (by intro g hg; simp at hg ⊢; rcases hg with h | h <;> simp [h]))⟩; clear ss hU4
          refine hK.out _ _ (Lib.hid trivial) (fun hHeld6 => ?_)
          clear hK K hHeld5
          try simp only [Act.put, List.setIfInBounds_toArray, List.set_cons_zero, List.set_cons_succ, List.getElem_toArray, List.getElem_cons_zero, List.getElem_cons_succ]
          refine wpAnyH_done (by kernel_rfl) ?_ _
          go_wp2_with fail
          go_meet
          exact ⟨p, b, rfl, rfl, PC.out⟩
      · skip
        have hs := run_str_of_blk Z1.out 26 9 5 Try.underlying26 Try.underlying5 Try.underlying9 0 32 32 zeros rfl (by unfold Z32; rw [toList_madeCells_one]; rfl); go_simp; go_wp2_with fail; clear hs Z1
        refine hK.out _ _ (Lib.hid trivial) (fun hHeld3 => ?_)
        clear hK K hHeld2
        try simp only [Act.put, List.setIfInBounds_toArray, List.set_cons_zero, List.set_cons_succ, List.getElem_toArray, List.getElem_cons_zero, List.getElem_cons_succ]
        refine wpAnyH_take (i := 3) (v := ?_) rfl (by kernel_rfl) (by kernel_rfl) (by kernel_rfl) (fun _ _ _ h => h) (Or.inl ⟨by rfl, ?_⟩) hHeld3 ?_
        rotate_left
        · intro w hSw
          have hSw1 := hSw
          clear hSw
          try dsimp only at hSw1
          go_simp
          try (with_reducible rfl)
        try simp only [Act.put, List.setIfInBounds_toArray, List.set_cons_zero, List.set_cons_succ, List.getElem_toArray, List.getElem_cons_zero, List.getElem_cons_succ]
        refine wpAnyH_ready (rs := [0, 4]) (by kernel_rfl) (by simp) ?_
        refine AllReadyH.cons rfl (fun K hK => ?_) (AllReadyH.cons rfl (fun K hK => ?_) (AllReadyH.nil))
        · skip
          go_simp; refine (auditNew_any _).mono ?_; rintro e U2 ⟨p, rfl, hN, hk⟩; have S2 : Hid (Step [] [p] w1 U2) := (S1.out.trans (by simpa using hk.frame [])); have N2 := Lib.hid hN; clear hN hk; go_wp2_with fail
          refine hK.out _ _ (Lib.hid trivial) (fun hHeld4 => ?_)
          clear hK K hHeld3
          try simp only [Act.put, List.setIfInBounds_toArray, List.set_cons_zero, List.set_cons_succ, List.getElem_toArray, List.getElem_cons_zero, List.getElem_cons_succ]
          refine wpAnyH_ready (rs := [4]) (by kernel_rfl) (by simp) ?_
          refine AllReadyH.cons rfl (fun K hK => ?_) AllReadyH.nil
          go_simp; go_wp2_with fail; refine letter (K := K) ?_; intro U3 hU3; obtain ⟨b, hb⟩ : ∃ b, b = (U2).heap.size := ⟨_, rfl⟩; have S3 : Hid (Step [] [b, p] w1 U3) := (by rw [hU3, hb]; exact S2.out.hold _); have NE : Hid (b ≠ p) := (by have := N2.out.lt p (by simp); rw [hb]; exact fun e => by omega); have N3 : Hid (Chn U3 p [p] newL) := (by rw [hU3]; exact (N2.out).step ((Step.refl [] _).alloc _) (by simp)); have B3 : Hid (Blk U3 b 29 #[.int .i64 0, Str [], .slice none 0 0]) := (by rw [hU3, hb]; exact Blk.new _ _ _); try rw [show U2.heap.size = b from hb.symm]; clear hU3 hb
          refine hK.out _ _ (Lib.hid trivial) (fun hHeld5 => ?_)
          clear hK K hHeld4
          try simp only [Act.put, List.setIfInBounds_toArray, List.set_cons_zero, List.set_cons_succ, List.getElem_toArray, List.getElem_cons_zero, List.getElem_cons_succ]
          refine wpAnyH_take (i := 5) (v := ?_) rfl (by kernel_rfl) (by kernel_rfl) (by kernel_rfl) (fun _ _ _ h => h) (Or.inl ⟨by rfl, ?_⟩) hHeld5 ?_
          rotate_left
          · intro w hSw
            have hSw1 := hSw
            clear hSw
            try dsimp only at hSw1
            go_simp
            try (with_reducible rfl)
          try simp only [Act.put, List.setIfInBounds_toArray, List.set_cons_zero, List.set_cons_succ, List.getElem_toArray, List.getElem_cons_zero, List.getElem_cons_succ]
          refine wpAnyH_ready (rs := [6]) (by kernel_rfl) (by simp) ?_
          refine AllReadyH.cons rfl (fun K hK => ?_) AllReadyH.nil
          have zc0 := B3.out.cell 0; have zc1 := B3.out.cell 1; have zc2 := B3.out.cell 2; have zf0 := B3.out.frozen 0; have zf1 := B3.out.frozen 1; have zf2 := B3.out.frozen 2; have zl := B3.out.lt; simp only [List.getElem?_toArray, List.getElem?_cons_zero, List.getElem?_cons_succ] at zc0 zc1 zc2; go_simp; go_wp2_with fail; refine letter (K := K) ?_; intro U4 hU4; clear zc0 zc1 zc2 zf0 zf1 zf2 zl; have ss : Step [b] [b] U3 U4 := (by rw [hU4]; exact (((Step.refl _ _).setCell (.inl (by simp)) _).setCell (.inl (by simp)) _).setCell (.inl (by simp)) _); have PC : Hid (PlC w1 U4 p b newL none 0) := ⟨[p], N3.out.step ss (by simpa using fun e => NE.out e.symm), (by rw [hU4]; exact set3 B3.out _ _ _), Row.none _ _, by simpa using NE.out, by simp [blks], (by rw [hU4]; exact (((S3.out.setCell (.inl (by simp)) _).setCell (.inl (by simp)) _).setCell (.inl (by simp)) _).drop (by intro g hg; simp at hg ⊢; rcases hg with h | h <;> simp [h]))⟩; clear ss hU4
          refine hK.out _ _ (Lib.hid trivial) (fun hHeld6 => ?_)
          clear hK K hHeld5
          try simp only [Act.put, List.setIfInBounds_toArray, List.set_cons_zero, List.set_cons_succ, List.getElem_toArray, List.getElem_cons_zero, List.getElem_cons_succ]
          refine wpAnyH_done (by kernel_rfl) ?_ _
          go_wp2_with fail
          go_meet
          exact ⟨p, b, rfl, rfl, PC.out⟩
        · skip
          go_simp; go_wp2_with fail; refine letter (K := K) ?_; intro U2 hU2; obtain ⟨b, hb⟩ : ∃ b, b = (U1).heap.size := ⟨_, rfl⟩; have S2 : Hid (Step [] [b] w1 U2) := (by rw [hU2, hb]; exact S1.out.hold _); have B2 : Hid (Blk U2 b 29 #[.int .i64 0, Str [], .slice none 0 0]) := (by rw [hU2, hb]; exact Blk.new _ _ _); try rw [show U1.heap.size = b from hb.symm]; clear hU2 hb
          refine hK.out _ _ (Lib.hid trivial) (fun hHeld4 => ?_)
          clear hK K hHeld3
          try simp only [Act.put, List.setIfInBounds_toArray, List.set_cons_zero, List.set_cons_succ, List.getElem_toArray, List.getElem_cons_zero, List.getElem_cons_succ]
          refine wpAnyH_ready (rs := [0]) (by kernel_rfl) (by simp) ?_
          refine AllReadyH.cons rfl (fun K hK => ?_) AllReadyH.nil
          go_simp; refine (auditNew_any _).mono ?_; rintro e U3 ⟨p, rfl, hN, hk⟩; have S3 : Hid (Step [] [b, p] w1 U3) := (S2.out.trans (by simpa using hk.frame [b])); have NE : Hid (b ≠ p) := (by have := hk.notin (B2.out).lt (by simp); intro e; apply this; rw [e]; simp); have B3 : Hid (Blk U3 b 29 #[.int .i64 0, Str [], .slice none 0 0]) := (B2.out.step hk (by simp)); have N3 := Lib.hid hN; clear hN hk; go_wp2_with fail
          refine hK.out _ _ (Lib.hid trivial) (fun hHeld5 => ?_)
          clear hK K hHeld4
          try simp only [Act.put, List.setIfInBounds_toArray, List.set_cons_zero, List.set_cons_succ, List.getElem_toArray, List.getElem_cons_zero, List.getElem_cons_succ]
          refine wpAnyH_take (i := 5) (v := ?_) rfl (by kernel_rfl) (by kernel_rfl) (by kernel_rfl) (fun _ _ _ h => h) (Or.inl ⟨by rfl, ?_⟩) hHeld5 ?_
          rotate_left
          · intro w hSw
            have hSw1 := hSw
            clear hSw
            try dsimp only at hSw1
            go_simp
            try (with_reducible rfl)
          try simp only [Act.put, List.setIfInBounds_toArray, List.set_cons_zero, List.set_cons_succ, List.getElem_toArray, List.getElem_cons_zero, List.getElem_cons_succ]
          refine wpAnyH_ready (rs := [6]) (by kernel_rfl) (by simp) ?_
          refine AllReadyH.cons rfl (fun K hK => ?_) AllReadyH.nil
          have zc0 := B3.out.cell 0; have zc1 := B3.out.cell 1; have zc2 := B3.out.cell 2; have zf0 := B3.out.frozen 0; have zf1 := B3.out.frozen 1; have zf2 := B3.out.frozen 2; have zl := B3.out.lt; simp only [List.getElem?_toArray, List.getElem?_cons_zero, List.getElem?_cons_succ] at zc0 zc1 zc2; go_simp; go_wp2_with fail; refine letter (K := K) ?_; intro U4 hU4; clear zc0 zc1 zc2 zf0 zf1 zf2 zl; have ss : Step [b] [b] U3 U4 := (by rw [hU4]; exact (((Step.refl _ _).setCell (.inl (by simp)) _).setCell (.inl (by simp)) _).setCell (.inl (by simp)) _); have PC : Hid (PlC w1 U4 p b newL none 0) := ⟨[p], N3.out.step ss (by simpa using fun e => NE.out e.symm), (by rw [hU4]; exact set3 B3.out _ _ _), Row.none _ _, by simpa using NE.out, by simp [blks], (by rw [hU4]; exact (((S3.out.setCell (.inl (by simp)) _).setCell (.inl (by simp)) _).setCell (.inl (by simp)) _).drop (by intro g hg; simp at hg ⊢; rcases hg with h | h <;> simp [h]))⟩; clear ss hU4
          refine hK.out _ _ (Lib.hid trivial) (fun hHeld6 => ?_)
          clear hK K hHeld5
          try simp only [Act.put, List.setIfInBounds_toArray, List.set_cons_zero, List.set_cons_succ, List.getElem_toArray, List.getElem_cons_zero, List.getElem_cons_succ]
          refine wpAnyH_done (by kernel_rfl) ?_ _
          go_wp2_with fail
          go_meet
          exact ⟨p, b, rfl, rfl, PC.out⟩
      · skip
        go_simp; go_wp2_with fail; refine letter (K := K) ?_; intro U2 hU2; obtain ⟨b, hb⟩ : ∃ b, b = (U1).heap.size := ⟨_, rfl⟩; have S2 : Hid (Step [] [b] w1 U2) := (by rw [hU2, hb]; exact S1.out.hold _); have Z2 : Hid (Blk U2 z 5 Z32) := (by rw [hU2]; exact (Z1.out).alloc _); have B2 : Hid (Blk U2 b 29 #[.int .i64 0, Str [], .slice none 0 0]) := (by rw [hU2, hb]; exact Blk.new _ _ _); try rw [show U1.heap.size = b from hb.symm]; clear hU2 hb
        refine hK.out _ _ (Lib.hid trivial) (fun hHeld3 => ?_)
        clear hK K hHeld2
        try simp only [Act.put, List.setIfInBounds_toArray, List.set_cons_zero, List.set_cons_succ, List.getElem_toArray, List.getElem_cons_zero, List.getElem_cons_succ]
        refine wpAnyH_ready (rs := [0, 2]) (by kernel_rfl) (by simp) ?_
        refine AllReadyH.cons rfl (fun K hK => ?_) (AllReadyH.cons rfl (fun K hK => ?_) (AllReadyH.nil))
        · skip
          go_simp; refine (auditNew_any _).mono ?_; rintro e U3 ⟨p, rfl, hN, hk⟩; have S3 : Hid (Step [] [b, p] w1 U3) := (S2.out.trans (by simpa using hk.frame [b])); have NE : Hid (b ≠ p) := (by have := hk.notin (B2.out).lt (by simp); intro e; apply this; rw [e]; simp); have Z3 : Hid (Blk U3 z 5 Z32) := (Z2.out.step hk (by simp)); have B3 : Hid (Blk U3 b 29 #[.int .i64 0, Str [], .slice none 0 0]) := (B2.out.step hk (by simp)); have N3 := Lib.hid hN; clear hN hk; go_wp2_with fail
          refine hK.out _ _ (Lib.hid trivial) (fun hHeld4 => ?_)
          clear hK K hHeld3
          try simp only [Act.put, List.setIfInBounds_toArray, List.set_cons_zero, List.set_cons_succ, List.getElem_toArray, List.getElem_cons_zero, List.getElem_cons_succ]
          refine wpAnyH_take (i := 5) (v := ?_) rfl (by kernel_rfl) (by kernel_rfl) (by kernel_rfl) (fun _ _ _ h => h) (Or.inl ⟨by rfl, ?_⟩) hHeld4 ?_
          rotate_left
          · intro w hSw
            have hSw1 := hSw
            clear hSw
            try dsimp only at hSw1
            go_simp
            try (with_reducible rfl)
          try simp only [Act.put, List.setIfInBounds_toArray, List.set_cons_zero, List.set_cons_succ, List.getElem_toArray, List.getElem_cons_zero, List.getElem_cons_succ]
          refine wpAnyH_ready (rs := [2]) (by kernel_rfl) (by simp) ?_
          refine AllReadyH.cons rfl (fun K hK => ?_) AllReadyH.nil
          have hs := run_str_of_blk Z3.out 26 9 5 Try.underlying26 Try.underlying5 Try.underlying9 0 32 32 zeros rfl (by unfold Z32; rw [toList_madeCells_one]; rfl); go_simp; go_wp2_with fail; clear hs Z3
          refine hK.out _ _ (Lib.hid trivial) (fun hHeld5 => ?_)
          clear hK K hHeld4
          try simp only [Act.put, List.setIfInBounds_toArray, List.set_cons_zero, List.set_cons_succ, List.getElem_toArray, List.getElem_cons_zero, List.getElem_cons_succ]
          refine wpAnyH_take (i := 3) (v := ?_) rfl (by kernel_rfl) (by kernel_rfl) (by kernel_rfl) (fun _ _ _ h => h) (Or.inl ⟨by rfl, ?_⟩) hHeld5 ?_
          rotate_left
          · intro w hSw
            have hSw1 := hSw
            clear hSw
            try dsimp only at hSw1
            go_simp
            try (with_reducible rfl)
          try simp only [Act.put, List.setIfInBounds_toArray, List.set_cons_zero, List.set_cons_succ, List.getElem_toArray, List.getElem_cons_zero, List.getElem_cons_succ]
          refine wpAnyH_ready (rs := [6]) (by kernel_rfl) (by simp) ?_
          refine AllReadyH.cons rfl (fun K hK => ?_) AllReadyH.nil
          have zc0 := B3.out.cell 0; have zc1 := B3.out.cell 1; have zc2 := B3.out.cell 2; have zf0 := B3.out.frozen 0; have zf1 := B3.out.frozen 1; have zf2 := B3.out.frozen 2; have zl := B3.out.lt; simp only [List.getElem?_toArray, List.getElem?_cons_zero, List.getElem?_cons_succ] at zc0 zc1 zc2; go_simp; go_wp2_with fail; refine letter (K := K) ?_; intro U4 hU4; clear zc0 zc1 zc2 zf0 zf1 zf2 zl; have ss : Step [b] [b] U3 U4 := (by rw [hU4]; exact (((Step.refl _ _).setCell (.inl (by simp)) _).setCell (.inl (by simp)) _).setCell (.inl (by simp)) _); have PC : Hid (PlC w1 U4 p b newL none 0) := ⟨[p], N3.out.step ss (by simpa using fun e => NE.out e.symm), (by rw [hU4]; exact set3 B3.out _ _ _), Row.none _ _, by simpa using NE.out, by simp [blks], (by rw [hU4]; exact (((S3.out.setCell (.inl (by simp)) _).setCell (.inl (by simp)) _).setCell (.inl (by simp)) _).drop (by intro g hg; simp at hg ⊢; rcases hg with h | h <;> simp [h]))⟩; clear ss hU4
          refine hK.out _ _ (Lib.hid trivial) (fun hHeld6 => ?_)
          clear hK K hHeld5
          try simp only [Act.put, List.setIfInBounds_toArray, List.set_cons_zero, List.set_cons_succ, List.getElem_toArray, List.getElem_cons_zero, List.getElem_cons_succ]
          refine wpAnyH_done (by kernel_rfl) ?_ _
          go_wp2_with fail
          go_meet
          exact ⟨p, b, rfl, rfl, PC.out⟩
        · skip
          have hs := run_str_of_blk Z2.out 26 9 5 Try.underlying26 Try.underlying5 Try.underlying9 0 32 32 zeros rfl (by unfold Z32; rw [toList_madeCells_one]; rfl); go_simp; go_wp2_with fail; clear hs Z2
          refine hK.out _ _ (Lib.hid trivial) (fun hHeld4 => ?_)
          clear hK K hHeld3
          try simp only [Act.put, List.setIfInBounds_toArray, List.set_cons_zero, List.set_cons_succ, List.getElem_toArray, List.getElem_cons_zero, List.getElem_cons_succ]
          refine wpAnyH_take (i := 3) (v := ?_) rfl (by kernel_rfl) (by kernel_rfl) (by kernel_rfl) (fun _ _ _ h => h) (Or.inl ⟨by rfl, ?_⟩) hHeld4 ?_
          rotate_left
          · intro w hSw
            have hSw1 := hSw
            clear hSw
            try dsimp only at hSw1
            go_simp
            try (with_reducible rfl)
          try simp only [Act.put, List.setIfInBounds_toArray, List.set_cons_zero, List.set_cons_succ, List.getElem_toArray, List.getElem_cons_zero, List.getElem_cons_succ]
          refine wpAnyH_ready (rs := [0]) (by kernel_rfl) (by simp) ?_
          refine AllReadyH.cons rfl (fun K hK => ?_) AllReadyH.nil
          go_simp; refine (auditNew_any _).mono ?_; rintro e U3 ⟨p, rfl, hN, hk⟩; have S3 : Hid (Step [] [b, p] w1 U3) := (S2.out.trans (by simpa using hk.frame [b])); have NE : Hid (b ≠ p) := (by have := hk.notin (B2.out).lt (by simp); intro e; apply this; rw [e]; simp); have B3 : Hid (Blk U3 b 29 #[.int .i64 0, Str [], .slice none 0 0]) := (B2.out.step hk (by simp)); have N3 := Lib.hid hN; clear hN hk; go_wp2_with fail
          refine hK.out _ _ (Lib.hid trivial) (fun hHeld5 => ?_)
          clear hK K hHeld4
          try simp only [Act.put, List.setIfInBounds_toArray, List.set_cons_zero, List.set_cons_succ, List.getElem_toArray, List.getElem_cons_zero, List.getElem_cons_succ]
          refine wpAnyH_take (i := 5) (v := ?_) rfl (by kernel_rfl) (by kernel_rfl) (by kernel_rfl) (fun _ _ _ h => h) (Or.inl ⟨by rfl, ?_⟩) hHeld5 ?_
          rotate_left
          · intro w hSw
            have hSw1 := hSw
            clear hSw
            try dsimp only at hSw1
            go_simp
            try (with_reducible rfl)
          try simp only [Act.put, List.setIfInBounds_toArray, List.set_cons_zero, List.set_cons_succ, List.getElem_toArray, List.getElem_cons_zero, List.getElem_cons_succ]
          refine wpAnyH_ready (rs := [6]) (by kernel_rfl) (by simp) ?_
          refine AllReadyH.cons rfl (fun K hK => ?_) AllReadyH.nil
          have zc0 := B3.out.cell 0; have zc1 := B3.out.cell 1; have zc2 := B3.out.cell 2; have zf0 := B3.out.frozen 0; have zf1 := B3.out.frozen 1; have zf2 := B3.out.frozen 2; have zl := B3.out.lt; simp only [List.getElem?_toArray, List.getElem?_cons_zero, List.getElem?_cons_succ] at zc0 zc1 zc2; go_simp; go_wp2_with fail; refine letter (K := K) ?_; intro U4 hU4; clear zc0 zc1 zc2 zf0 zf1 zf2 zl; have ss : Step [b] [b] U3 U4 := (by rw [hU4]; exact (((Step.refl _ _).setCell (.inl (by simp)) _).setCell (.inl (by simp)) _).setCell (.inl (by simp)) _); have PC : Hid (PlC w1 U4 p b newL none 0) := ⟨[p], N3.out.step ss (by simpa using fun e => NE.out e.symm), (by rw [hU4]; exact set3 B3.out _ _ _), Row.none _ _, by simpa using NE.out, by simp [blks], (by rw [hU4]; exact (((S3.out.setCell (.inl (by simp)) _).setCell (.inl (by simp)) _).setCell (.inl (by simp)) _).drop (by intro g hg; simp at hg ⊢; rcases hg with h | h <;> simp [h]))⟩; clear ss hU4
          refine hK.out _ _ (Lib.hid trivial) (fun hHeld6 => ?_)
          clear hK K hHeld5
          try simp only [Act.put, List.setIfInBounds_toArray, List.set_cons_zero, List.set_cons_succ, List.getElem_toArray, List.getElem_cons_zero, List.getElem_cons_succ]
          refine wpAnyH_done (by kernel_rfl) ?_ _
          go_wp2_with fail
          go_meet
          exact ⟨p, b, rfl, rfl, PC.out⟩
    · skip
      go_simp; go_wp2_with fail; refine letter (K := K) ?_; intro U1 hU1; obtain ⟨b, hb⟩ : ∃ b, b = (w1.drew).heap.size := ⟨_, rfl⟩; have S1 : Hid (Step [] [b] w1 U1) := (by rw [hU1, hb]; exact S0.out.hold _); have B1 : Hid (Blk U1 b 29 #[.int .i64 0, Str [], .slice none 0 0]) := (by rw [hU1, hb]; exact Blk.new _ _ _); try rw [show w1.heap.size = b from hb.symm]; clear hU1 hb
      refine hK.out _ _ (Lib.hid trivial) (fun hHeld2 => ?_)
      clear hK K hHeld
      try simp only [Act.put, List.setIfInBounds_toArray, List.set_cons_zero, List.set_cons_succ, List.getElem_toArray, List.getElem_cons_zero, List.getElem_cons_succ]
      refine wpAnyH_ready (rs := [0, 1]) (by kernel_rfl) (by simp) ?_
      refine AllReadyH.cons rfl (fun K hK => ?_) (AllReadyH.cons rfl (fun K hK => ?_) (AllReadyH.nil))
      · skip
        go_simp; refine (auditNew_any _).mono ?_; rintro e U2 ⟨p, rfl, hN, hk⟩; have S2 : Hid (Step [] [b, p] w1 U2) := (S1.out.trans (by simpa using hk.frame [b])); have NE : Hid (b ≠ p) := (by have := hk.notin (B1.out).lt (by simp); intro e; apply this; rw [e]; simp); have B2 : Hid (Blk U2 b 29 #[.int .i64 0, Str [], .slice none 0 0]) := (B1.out.step hk (by simp)); have N2 := Lib.hid hN; clear hN hk; go_wp2_with fail
        refine hK.out _ _ (Lib.hid trivial) (fun hHeld3 => ?_)
        clear hK K hHeld2
        try simp only [Act.put, List.setIfInBounds_toArray, List.set_cons_zero, List.set_cons_succ, List.getElem_toArray, List.getElem_cons_zero, List.getElem_cons_succ]
        refine wpAnyH_take (i := 5) (v := ?_) rfl (by kernel_rfl) (by kernel_rfl) (by kernel_rfl) (fun _ _ _ h => h) (Or.inl ⟨by rfl, ?_⟩) hHeld3 ?_
        rotate_left
        · intro w hSw
          have hSw1 := hSw
          clear hSw
          try dsimp only at hSw1
          go_simp
          try (with_reducible rfl)
        try simp only [Act.put, List.setIfInBounds_toArray, List.set_cons_zero, List.set_cons_succ, List.getElem_toArray, List.getElem_cons_zero, List.getElem_cons_succ]
        refine wpAnyH_ready (rs := [1]) (by kernel_rfl) (by simp) ?_
        refine AllReadyH.cons rfl (fun K hK => ?_) AllReadyH.nil
        have hmk := mk32; go_simp; go_wp2_with fail; refine letter (K := K) ?_; intro U3 hU3; clear hmk; obtain ⟨z, hz⟩ : ∃ z, z = (U2).heap.size := ⟨_, rfl⟩; have S3 : Hid (Step [] [b, p] w1 U3) := (by rw [hU3]; exact S2.out.alloc _); have N3 : Hid (Chn U3 p [p] newL) := (by rw [hU3]; exact (N2.out).step ((Step.refl [] _).alloc _) (by simp)); have B3 : Hid (Blk U3 b 29 #[.int .i64 0, Str [], .slice none 0 0]) := (by rw [hU3]; exact (B2.out).alloc _); have Z3 : Hid (Blk U3 z 5 Z32) := (by rw [hU3, hz]; exact Blk.new _ _ _); try rw [show U2.heap.size = z from hz.symm]; clear hU3 hz
        refine hK.out _ _ (Lib.hid trivial) (fun hHeld4 => ?_)
        clear hK K hHeld3
        try simp only [Act.put, List.setIfInBounds_toArray, List.set_cons_zero, List.set_cons_succ, List.getElem_toArray, List.getElem_cons_zero, List.getElem_cons_succ]
        refine wpAnyH_ready (rs := [2]) (by kernel_rfl) (by simp) ?_
        refine AllReadyH.cons rfl (fun K hK => ?_) AllReadyH.nil
        have hs := run_str_of_blk Z3.out 26 9 5 Try.underlying26 Try.underlying5 Try.underlying9 0 32 32 zeros rfl (by unfold Z32; rw [toList_madeCells_one]; rfl); go_simp; go_wp2_with fail; clear hs Z3
        refine hK.out _ _ (Lib.hid trivial) (fun hHeld5 => ?_)
        clear hK K hHeld4
        try simp only [Act.put, List.setIfInBounds_toArray, List.set_cons_zero, List.set_cons_succ, List.getElem_toArray, List.getElem_cons_zero, List.getElem_cons_succ]
        refine wpAnyH_take (i := 3) (v := ?_) rfl (by kernel_rfl) (by kernel_rfl) (by kernel_rfl) (fun _ _ _ h => h) (Or.inl ⟨by rfl, ?_⟩) hHeld5 ?_
        rotate_left
        · intro w hSw
          have hSw1 := hSw
          clear hSw
          try dsimp only at hSw1
          go_simp
          try (with_reducible rfl)
        try simp only [Act.put, List.setIfInBounds_toArray, List.set_cons_zero, List.set_cons_succ, List.getElem_toArray, List.getElem_cons_zero, List.getElem_cons_succ]
        refine wpAnyH_ready (rs := [6]) (by kernel_rfl) (by simp) ?_
        refine AllReadyH.cons rfl (fun K hK => ?_) AllReadyH.nil
        have zc0 := B3.out.cell 0; have zc1 := B3.out.cell 1; have zc2 := B3.out.cell 2; have zf0 := B3.out.frozen 0; have zf1 := B3.out.frozen 1; have zf2 := B3.out.frozen 2; have zl := B3.out.lt; simp only [List.getElem?_toArray, List.getElem?_cons_zero, List.getElem?_cons_succ] at zc0 zc1 zc2; go_simp; go_wp2_with fail; refine letter (K := K) ?_; intro U4 hU4; clear zc0 zc1 zc2 zf0 zf1 zf2 zl; have ss : Step [b] [b] U3 U4 := (by rw [hU4]; exact (((Step.refl _ _).setCell (.inl (by simp)) _).setCell (.inl (by simp)) _).setCell (.inl (by simp)) _); have PC : Hid (PlC w1 U4 p b newL none 0) := ⟨[p], N3.out.step ss (by simpa using fun e => NE.out e.symm), (by rw [hU4]; exact set3 B3.out _ _ _), Row.none _ _, by simpa using NE.out, by simp [blks], (by rw [hU4]; exact (((S3.out.setCell (.inl (by simp)) _).setCell (.inl (by simp)) _).setCell (.inl (by simp)) _).drop (by intro g hg; simp at hg ⊢; rcases hg with h | h <;> simp [h]))⟩; clear ss hU4
        refine hK.out _ _ (Lib.hid trivial) (fun hHeld6 => ?_)
        clear hK K hHeld5
        try simp only [Act.put, List.setIfInBounds_toArray, List.set_cons_zero, List.set_cons_succ, List.getElem_toArray, List.getElem_cons_zero, List.getElem_cons_succ]
        refine wpAnyH_done (by kernel_rfl) ?_ _
        go_wp2_with fail
        go_meet
        exact ⟨p, b, rfl, rfl, PC.out⟩
      · skip
        have hmk := mk32; go_simp; go_wp2_with fail; refine letter (K := K) ?_; intro U2 hU2; clear hmk; obtain ⟨z, hz⟩ : ∃ z, z = (U1).heap.size := ⟨_, rfl⟩; have S2 : Hid (Step [] [b] w1 U2) := (by rw [hU2]; exact S1.out.alloc _); have B2 : Hid (Blk U2 b 29 #[.int .i64 0, Str [], .slice none 0 0]) := (by rw [hU2]; exact (B1.out).alloc _); have Z2 : Hid (Blk U2 z 5 Z32) := (by rw [hU2, hz]; exact Blk.new _ _ _); try rw [show U1.heap.size = z from hz.symm]; clear hU2 hz
        refine hK.out _ _ (Lib.hid trivial) (fun hHeld3 => ?_)
        clear hK K hHeld2
        try simp only [Act.put, List.setIfInBounds_toArray, List.set_cons_zero, List.set_cons_succ, List.getElem_toArray, List.getElem_cons_zero, List.getElem_cons_succ]
        refine wpAnyH_ready (rs := [0, 2]) (by kernel_rfl) (by simp) ?_
        refine AllReadyH.cons rfl (fun K hK => ?_) (AllReadyH.cons rfl (fun K hK => ?_) (AllReadyH.nil))
        · skip
          go_simp; refine (auditNew_any _).mono ?_; rintro e U3 ⟨p, rfl, hN, hk⟩; have S3 : Hid (Step [] [b, p] w1 U3) := (S2.out.trans (by simpa using hk.frame [b])); have NE : Hid (b ≠ p) := (by have := hk.notin (B2.out).lt (by simp); intro e; apply this; rw [e]; simp); have Z3 : Hid (Blk U3 z 5 Z32) := (Z2.out.step hk (by simp)); have B3 : Hid (Blk U3 b 29 #[.int .i64 0, Str [], .slice none 0 0]) := (B2.out.step hk (by simp)); have N3 := Lib.hid hN; clear hN hk; go_wp2_with fail
          refine hK.out _ _ (Lib.hid trivial) (fun hHeld4 => ?_)
          clear hK K hHeld3
          try simp only [Act.put, List.setIfInBounds_toArray, List.set_cons_zero, List.set_cons_succ, List.getElem_toArray, List.getElem_cons_zero, List.getElem_cons_succ]
          refine wpAnyH_take (i := 5) (v := ?_) rfl (by kernel_rfl) (by kernel_rfl) (by kernel_rfl) (fun _ _ _ h => h) (Or.inl ⟨by rfl, ?_⟩) hHeld4 ?_
          rotate_left
          · intro w hSw
            have hSw1 := hSw
            clear hSw
            try dsimp only at hSw1
            go_simp
            try (with_reducible rfl)
          try simp only [Act.put, List.setIfInBounds_toArray, List.set_cons_zero, List.set_cons_succ, List.getElem_toArray, List.getElem_cons_zero, List.getElem_cons_succ]
          refine wpAnyH_ready (rs := [2]) (by kernel_rfl) (by simp) ?_
          refine AllReadyH.cons rfl (fun K hK => ?_) AllReadyH.nil
          have hs := run_str_of_blk Z3.out 26 9 5 Try.underlying26 Try.underlying5 Try.underlying9 0 32 32 zeros rfl (by unfold Z32; rw [toList_madeCells_one]; rfl); go_simp; go_wp2_with fail; clear hs Z3
          refine hK.out _ _ (Lib.hid trivial) (fun hHeld5 => ?_)
          clear hK K hHeld4
          try simp only [Act.put, List.setIfInBounds_toArray, List.set_cons_zero, List.set_cons_succ, List.getElem_toArray, List.getElem_cons_zero, List.getElem_cons_succ]
          refine wpAnyH_take (i := 3) (v := ?_) rfl (by kernel_rfl) (by kernel_rfl) (by kernel_rfl) (fun _ _ _ h => h) (Or.inl ⟨by rfl, ?_⟩) hHeld5 ?_
          rotate_left
          · intro w hSw
            have hSw1 := hSw
            clear hSw
            try dsimp only at hSw1
            go_simp
            try (with_reducible rfl)
          try simp only [Act.put, List.setIfInBounds_toArray, List.set_cons_zero, List.set_cons_succ, List.getElem_toArray, List.getElem_cons_zero, List.getElem_cons_succ]
          refine wpAnyH_ready (rs := [6]) (by kernel_rfl) (by simp) ?_
          refine AllReadyH.cons rfl (fun K hK => ?_) AllReadyH.nil
          have zc0 := B3.out.cell 0; have zc1 := B3.out.cell 1; have zc2 := B3.out.cell 2; have zf0 := B3.out.frozen 0; have zf1 := B3.out.frozen 1; have zf2 := B3.out.frozen 2; have zl := B3.out.lt; simp only [List.getElem?_toArray, List.getElem?_cons_zero, List.getElem?_cons_succ] at zc0 zc1 zc2; go_simp; go_wp2_with fail; refine letter (K := K) ?_; intro U4 hU4; clear zc0 zc1 zc2 zf0 zf1 zf2 zl; have ss : Step [b] [b] U3 U4 := (by rw [hU4]; exact (((Step.refl _ _).setCell (.inl (by simp)) _).setCell (.inl (by simp)) _).setCell (.inl (by simp)) _); have PC : Hid (PlC w1 U4 p b newL none 0) := ⟨[p], N3.out.step ss (by simpa using fun e => NE.out e.symm), (by rw [hU4]; exact set3 B3.out _ _ _), Row.none _ _, by simpa using NE.out, by simp [blks], (by rw [hU4]; exact (((S3.out.setCell (.inl (by simp)) _).setCell (.inl (by simp)) _).setCell (.inl (by simp)) _).drop (by intro g hg; simp at hg ⊢; rcases hg with h | h <;> simp [h]))⟩; clear ss hU4
          refine hK.out _ _ (Lib.hid trivial) (fun hHeld6 => ?_)
          clear hK K hHeld5
          try simp only [Act.put, List.setIfInBounds_toArray, List.set_cons_zero, List.set_cons_succ, List.getElem_toArray, List.getElem_cons_zero, List.getElem_cons_succ]
          refine wpAnyH_done (by kernel_rfl) ?_ _
          go_wp2_with fail
          go_meet
          exact ⟨p, b, rfl, rfl, PC.out⟩
        · skip
          have hs := run_str_of_blk Z2.out 26 9 5 Try.underlying26 Try.underlying5 Try.underlying9 0 32 32 zeros rfl (by unfold Z32; rw [toList_madeCells_one]; rfl); go_simp; go_wp2_with fail; clear hs Z2
          refine hK.out _ _ (Lib.hid trivial) (fun hHeld4 => ?_)
          clear hK K hHeld3
          try simp only [Act.put, List.setIfInBounds_toArray, List.set_cons_zero, List.set_cons_succ, List.getElem_toArray, List.getElem_cons_zero, List.getElem_cons_succ]
          refine wpAnyH_take (i := 3) (v := ?_) rfl (by kernel_rfl) (by kernel_rfl) (by kernel_rfl) (fun _ _ _ h => h) (Or.inl ⟨by rfl, ?_⟩) hHeld4 ?_
          rotate_left
          · intro w hSw
            have hSw1 := hSw
            clear hSw
            try dsimp only at hSw1
            go_simp
            try (with_reducible rfl)
          try simp only [Act.put, List.setIfInBounds_toArray, List.set_cons_zero, List.set_cons_succ, List.getElem_toArray, List.getElem_cons_zero, List.getElem_cons_succ]
          refine wpAnyH_ready (rs := [0]) (by kernel_rfl) (by simp) ?_
          refine AllReadyH.cons rfl (fun K hK => ?_) AllReadyH.nil
          go_simp; refine (auditNew_any _).mono ?_; rintro e U3 ⟨p, rfl, hN, hk⟩; have S3 : Hid (Step [] [b, p] w1 U3) := (S2.out.trans (by simpa using hk.frame [b])); have NE : Hid (b ≠ p) := (by have := hk.notin (B2.out).lt (by simp); intro e; apply this; rw [e]; simp); have B3 : Hid (Blk U3 b 29 #[.int .i64 0, Str [], .slice none 0 0]) := (B2.out.step hk (by simp)); have N3 := Lib.hid hN; clear hN hk; go_wp2_with fail
          refine hK.out _ _ (Lib.hid trivial) (fun hHeld5 => ?_)
          clear hK K hHeld4
          try simp only [Act.put, List.setIfInBounds_toArray, List.set_cons_zero, List.set_cons_succ, List.getElem_toArray, List.getElem_cons_zero, List.getElem_cons_succ]
          refine wpAnyH_take (i := 5) (v := ?_) rfl (by kernel_rfl) (by kernel_rfl) (by kernel_rfl) (fun _ _ _ h => h) (Or.inl ⟨by rfl, ?_⟩) hHeld5 ?_
          rotate_left
          · intro w hSw
            have hSw1 := hSw
            clear hSw
            try dsimp only at hSw1
            go_simp
            try (with_reducible rfl)
          try simp only [Act.put, List.setIfInBounds_toArray, List.set_cons_zero, List.set_cons_succ, List.getElem_toArray, List.getElem_cons_zero, List.getElem_cons_succ]
          refine wpAnyH_ready (rs := [6]) (by kernel_rfl) (by simp) ?_
          refine AllReadyH.cons rfl (fun K hK => ?_) AllReadyH.nil
          have zc0 := B3.out.cell 0; have zc1 := B3.out.cell 1; have zc2 := B3.out.cell 2; have zf0 := B3.out.frozen 0; have zf1 := B3.out.frozen 1; have zf2 := B3.out.frozen 2; have zl := B3.out.lt; simp only [List.getElem?_toArray, List.getElem?_cons_zero, List.getElem?_cons_succ] at zc0 zc1 zc2; go_simp; go_wp2_with fail; refine letter (K := K) ?_; intro U4 hU4; clear zc0 zc1 zc2 zf0 zf1 zf2 zl; have ss : Step [b] [b] U3 U4 := (by rw [hU4]; exact (((Step.refl _ _).setCell (.inl (by simp)) _).setCell (.inl (by simp)) _).setCell (.inl (by simp)) _); have PC : Hid (PlC w1 U4 p b newL none 0) := ⟨[p], N3.out.step ss (by simpa using fun e => NE.out e.symm), (by rw [hU4]; exact set3 B3.out _ _ _), Row.none _ _, by simpa using NE.out, by simp [blks], (by rw [hU4]; exact (((S3.out.setCell (.inl (by simp)) _).setCell (.inl (by simp)) _).setCell (.inl (by simp)) _).drop (by intro g hg; simp at hg ⊢; rcases hg with h | h <;> simp [h]))⟩; clear ss hU4
          refine hK.out _ _ (Lib.hid trivial) (fun hHeld6 => ?_)
          clear hK K hHeld5
          try simp only [Act.put, List.setIfInBounds_toArray, List.set_cons_zero, List.set_cons_succ, List.getElem_toArray, List.getElem_cons_zero, List.getElem_cons_succ]
          refine wpAnyH_done (by kernel_rfl) ?_ _
          go_wp2_with fail
          go_meet
          exact ⟨p, b, rfl, rfl, PC.out⟩
  case rest =>
    rename World => W0
    obtain ⟨p, b, rfl, rfl, HPC⟩ := hcut
    by_cases h60 : (60 : Int) < l.length
    · go_wp2_with fail
      exact bodyPost_ret (results_tmp rfl _ _ _) rfl ⟨rfl, H1.out.2.trans HPC.out.out⟩
    · have h60n : l.length ≤ 60 := by omega
      go_wp2_with fail
      go_loopw [24] (fun i W => ∃ (k : Nat) (c : Ch) (a2 : Option Addr) (cap : Nat), i = .int .i64 k ∧ k ≤ l.length ∧ Hid (PlC w1 W p b c a2 cap ∧ Fit2 c k)) (fun i _ => l.length - (intOf i).toNat)
      case atStart => exact ⟨0, newL, none, 0, rfl, by omega, HPC.out, Fit2.new⟩
      case round =>
        clear HPC
        rename World => W
        obtain ⟨k, c, a2, cap, rfl, hk, HW⟩ := hrel
        by_cases hlt : k < l.length
        · have hlt' : (k : Int) < l.length := by omega
          obtain ⟨o, ho⟩ : ∃ o, l[k]? = some o := ⟨_, List.getElem?_eq_getElem hlt⟩
          have hrd := H1.out.1.step0 HW.out.1.out
          obtain ⟨g, off, rfl⟩ := hrd.some_ (by omega)
          have HI := Lib.hid (H0.out.2 o (List.mem_of_getElem? ho))
          have cx0 := rd_op hrd ho 0 (by omega) rfl
          have cx1 := rd_op hrd ho 1 (by omega) rfl
          have cx2 := rd_op hrd ho 2 (by omega) rfl
          have cx3 := rd_op hrd ho 3 (by omega) rfl
          have cx4 := rd_op hrd ho 4 (by omega) rfl
          have cx5 := rd_op hrd ho 5 (by omega) rfl
          have cx6 := rd_op hrd ho 6 (by omega) rfl
          have cx7 := rd_op hrd ho 7 (by omega) rfl
          have cx8 := rd_op hrd ho 8 (by omega) rfl
          have cx9 := rd_op hrd ho 9 (by omega) rfl
          rw [Nat.add_zero] at cx0
          have gl : g < W.heap.size := by have := World.block_lt_of_cell? _ _ cx0; simpa using this
          clear ho hrd
          go_upto_region 9 with fail
          obtain ⟨bo, hbo⟩ : ∃ bo, bo = W.heap.size := ⟨_, rfl⟩
          obtain ⟨V, hV⟩ : ∃ V, V = W.alloc (.cells #[.int .i64 o.k, .int .i64 o.l.index, .int .i64 o.l.client, .int .i64 o.l.seq, .string ⟨o.l.user.toArray⟩, .int .i64 o.l.kind, .int .i64 o.l.err, .string ⟨o.l.digest.toArray⟩, .string ⟨o.l.hash.toArray⟩, .int .i64 o.n] 34) := ⟨_, rfl⟩
          have HT : Hid (PlA w1 V p b c c a2 cap bo o) := Lib.hid (by rw [hV, hbo]; exact HW.out.1.pla o)
          rw [← hV, ← hbo]
          clear hV hbo cx0 cx1 cx2 cx3 cx4 cx5 cx6 cx7 cx8 cx9 gl
          have bl := HT.out.blk.op
          have ll := HT.out.blk.lt
          go_wp2_with fail
          have HG := great_any [o.l] (some ⟨V.heap.size, 0, none⟩) 1 (V.alloc (.cells (lnc o.l).toArray 32)) (by simpa [lncs] using rd_blk (Blk.new V 32 (lnc o.l).toArray) 8 1 rfl) (by simp)
          rw [List.length_singleton] at HG
          refine HG.mono ?_
          rintro e w3 ⟨rfl, rfl⟩
          have HT2 := Lib.hid (HT.out.quiet ((Step.refl [] V).alloc (.cells (lnc o.l).toArray 32)))
          clear HG HT bl ll
          cases hg : greatL [o.l] with
          | true =>
            go_wp2_with fail
            exact bodyPost_ret (results_tmp rfl _ _ _) rfl ⟨rfl, H1.out.2.trans HT2.out.out⟩
          | false =>
            have HX : Hid (LnOk o.l) := HI.out.1.ok ((greatL_len hg).2 o.l (by simp))
            clear hg
            have HO : Hid (ChOk c) := HW.out.2.chok (by omega)
            obtain ⟨V2, hV2⟩ : ∃ V2, V2 = V.alloc (.cells (lnc o.l).toArray 32) := ⟨_, rfl⟩
            rw [show V.alloc (.cells #[.int .i64 o.l.index, .int .i64 o.l.client, .int .i64 o.l.seq, .string ⟨o.l.user.toArray⟩, .int .i64 o.l.kind, .int .i64 o.l.err, .string ⟨o.l.digest.toArray⟩, .string ⟨o.l.hash.toArray⟩] 32) = V2 from hV2.symm]
            rw [← hV2] at HT2
            clear hV2
            by_cases hk0 : o.k = 0
            · have hkb : (o.k == 0) = true := by simpa using hk0
              clear hk0
              have bl := HT2.out.blk.op
              have ll := HT2.out.blk.lt
              go_wp2_with fail
              refine (pla_add1 HT2.out o.l HO.out HX.out HW.out.2.hash).mono ?_
              rintro e V3 ⟨rfl, t3⟩
              have H3 := Lib.hid t3
              clear t3 bl ll
              have bl := H3.out.blk.op
              have ll := H3.out.blk.lt
              have ch := H3.out.chb.ch
              have chl := H3.out.chb.lt
              have chf0 := H3.out.chb.frozen 0
              have chf1 := H3.out.chb.frozen 1
              have chf2 := H3.out.chb.frozen 2
              go_wp2_with fail
              refine (pla_add2 H3.out o.l HO.out HX.out HW.out.2.hash).mono ?_
              rintro e V4 ⟨a5, cap5, rfl, h5⟩
              have H4 := Lib.hid h5
              clear h5 H3 bl ll ch chl chf0 chf1 chf2
              obtain ⟨c2, hc2⟩ : ∃ c2, c2 = addL c o.l := ⟨_, rfl⟩
              have HF : Hid (Fit2 c2 (k + 1)) := by rw [hc2]; exact HW.out.2.add o.l HX.out
              rw [← hc2] at H4 ⊢
              clear hc2
              have ch := H4.out.chb.ch
              have chl := H4.out.chb.lt
              have chf0 := H4.out.chb.frozen 0
              have chf1 := H4.out.chb.frozen 1
              have chf2 := H4.out.chb.frozen 2
              go_upto_region 17 with fail
              obtain ⟨W5, hW5⟩ : ∃ W5, W5 = ((V4.setCell ⟨b, 0, none⟩ (.int .i64 c2.base.count)).setCell ⟨b, 1, none⟩ (Str c2.base.hash)).setCell ⟨b, 2, none⟩ (.slice a5 c2.ls.length cap5) := ⟨_, rfl⟩
              have H5 : Hid (PlA w1 W5 p b c2 c2 a5 cap5 bo o) := Lib.hid (by rw [hW5]; exact H4.out.put)
              rw [← hW5]
              clear hW5 H4 ch chl chf0 chf1 chf2
              clear HT2
              have ch2 := HF.out.base
              have HCK : Hid (ChOk c2) := HF.out.chok (by omega)
              go_wp2_with fail
              refine (pla_head H5.out HCK.out).mono ?_
              rintro e W6 ⟨rfl, t6⟩
              have H6 := Lib.hid t6
              obtain ⟨z, hz⟩ : ∃ z, z = headL c2.base c2.ls := ⟨_, rfl⟩
              have HZ : Hid (z = headL c2.base c2.ls ∧ 0 ≤ z.count ∧ z.count ≤ 1000) := ⟨hz, by rw [hz, headL_count]; omega, by rw [hz, headL_count]; omega⟩
              rw [← hz]
              clear t6 H5 hz
              go_wp2_with fail
              refine (pla_base H6.out).mono ?_
              rintro e W7 ⟨rfl, t7⟩
              have H7 := Lib.hid t7
              clear t7 H6
              have ch := H7.out.chb.ch
              have chl := H7.out.chb.lt
              have chf0 := H7.out.chb.frozen 0
              have chf1 := H7.out.chb.frozen 1
              have chf2 := H7.out.chb.frozen 2
              go_wp2_with fail
              refine (pla_same H7.out HCK.out).mono ?_
              rintro e W8 ⟨rfl, t8⟩
              have H8 := Lib.hid t8
              clear t8 H7 ch chl chf0 chf1 chf2
              go_wp2_with fail
              refine (pla_lines H8.out HCK.out).mono ?_
              rintro e W9 ⟨a9, cap9, rfl, r9, t9⟩
              have H9 := Lib.hid (And.intro r9 t9)
              clear r9 t9 H8
              go_wp2_with fail
              refine (verify_any c2.base c2.ls a9 cap9 z W9 H9.out.1 HCK.out.len HF.out.ok HF.out.bash).mono ?_
              rintro e W10 ⟨rfl, k10⟩
              have HV1 : Hid (verifyL c2.base c2.ls z = true) := by have := HF.out.inv.verify; rw [← HZ.out.1] at this; exact this
              have HV2 : Hid (verifyL c2.base c2.ls ⟨z.count + 1, z.hash⟩ = false) := by have := HF.out.inv.verify1; rw [← HZ.out.1] at this; exact this
              rw [HV1.out]
              have H10 := Lib.hid (H9.out.2.quiet k10)
              clear k10 H9
              go_wp2_with fail
              refine (pla_lines H10.out HCK.out).mono ?_
              rintro e W11 ⟨a11, cap11, rfl, r11, t11⟩
              have H11 := Lib.hid (And.intro r11 t11)
              clear r11 t11 H10
              have q1 : IntKind.i64.wrap (z.count + 1) = z.count + 1 := IntWalk.i64_in _ (by have := HZ.out.2; omega)
              go_wp2_with fail
              clear q1
              refine (verify_any c2.base c2.ls a11 cap11 ⟨z.count + 1, z.hash⟩ W11 H11.out.1 HCK.out.len HF.out.ok HF.out.bash).mono ?_
              rintro e W12 ⟨rfl, k12⟩
              rw [HV2.out]
              have H12 := Lib.hid (H11.out.2.quiet k12).plc
              clear k12 H11 ch2
              go_wp2_with fail
              go_roundw
              case rel => exact ⟨k + 1, c2, a5, cap5, by go_num, by omega, H12.out, HF.out⟩
              case measure => simp [intOf]; omega
            · have hkb : (o.k == 0) = false := by simpa using hk0
              clear hk0
              have bl := HT2.out.blk.op
              have ll := HT2.out.blk.lt
              go_wp2_with fail
              refine (pla_cut1 HT2.out o.n HO.out).mono ?_
              rintro e V3 ⟨rfl, t3⟩
              have H3 := Lib.hid t3
              clear t3 bl ll
              have bl := H3.out.blk.op
              have ll := H3.out.blk.lt
              have ch := H3.out.chb.ch
              have chl := H3.out.chb.lt
              have chf0 := H3.out.chb.frozen 0
              have chf1 := H3.out.chb.frozen 1
              have chf2 := H3.out.chb.frozen 2
              go_wp2_with fail
              refine (pla_cut2 H3.out o.n HO.out).mono ?_
              rintro e V4 ⟨a5, cap5, rfl, h5⟩
              have H4 := Lib.hid h5
              clear h5 H3 bl ll ch chl chf0 chf1 chf2
              obtain ⟨c2, hc2⟩ : ∃ c2, c2 = cutL c o.n := ⟨_, rfl⟩
              have HF : Hid (Fit2 c2 (k + 1)) := by rw [hc2]; exact HW.out.2.cut o.n
              rw [← hc2] at H4 ⊢
              clear hc2
              have ch := H4.out.chb.ch
              have chl := H4.out.chb.lt
              have chf0 := H4.out.chb.frozen 0
              have chf1 := H4.out.chb.frozen 1
              have chf2 := H4.out.chb.frozen 2
              go_upto_region 17 with fail
              obtain ⟨W5, hW5⟩ : ∃ W5, W5 = ((V4.setCell ⟨b, 0, none⟩ (.int .i64 c2.base.count)).setCell ⟨b, 1, none⟩ (Str c2.base.hash)).setCell ⟨b, 2, none⟩ (.slice a5 c2.ls.length cap5) := ⟨_, rfl⟩
              have H5 : Hid (PlA w1 W5 p b c2 c2 a5 cap5 bo o) := Lib.hid (by rw [hW5]; exact H4.out.put)
              rw [← hW5]
              clear hW5 H4 ch chl chf0 chf1 chf2
              clear HT2
              have ch2 := HF.out.base
              have HCK : Hid (ChOk c2) := HF.out.chok (by omega)
              go_wp2_with fail
              refine (pla_head H5.out HCK.out).mono ?_
              rintro e W6 ⟨rfl, t6⟩
              have H6 := Lib.hid t6
              obtain ⟨z, hz⟩ : ∃ z, z = headL c2.base c2.ls := ⟨_, rfl⟩
              have HZ : Hid (z = headL c2.base c2.ls ∧ 0 ≤ z.count ∧ z.count ≤ 1000) := ⟨hz, by rw [hz, headL_count]; omega, by rw [hz, headL_count]; omega⟩
              rw [← hz]
              clear t6 H5 hz
              go_wp2_with fail
              refine (pla_base H6.out).mono ?_
              rintro e W7 ⟨rfl, t7⟩
              have H7 := Lib.hid t7
              clear t7 H6
              have ch := H7.out.chb.ch
              have chl := H7.out.chb.lt
              have chf0 := H7.out.chb.frozen 0
              have chf1 := H7.out.chb.frozen 1
              have chf2 := H7.out.chb.frozen 2
              go_wp2_with fail
              refine (pla_same H7.out HCK.out).mono ?_
              rintro e W8 ⟨rfl, t8⟩
              have H8 := Lib.hid t8
              clear t8 H7 ch chl chf0 chf1 chf2
              go_wp2_with fail
              refine (pla_lines H8.out HCK.out).mono ?_
              rintro e W9 ⟨a9, cap9, rfl, r9, t9⟩
              have H9 := Lib.hid (And.intro r9 t9)
              clear r9 t9 H8
              go_wp2_with fail
              refine (verify_any c2.base c2.ls a9 cap9 z W9 H9.out.1 HCK.out.len HF.out.ok HF.out.bash).mono ?_
              rintro e W10 ⟨rfl, k10⟩
              have HV1 : Hid (verifyL c2.base c2.ls z = true) := by have := HF.out.inv.verify; rw [← HZ.out.1] at this; exact this
              have HV2 : Hid (verifyL c2.base c2.ls ⟨z.count + 1, z.hash⟩ = false) := by have := HF.out.inv.verify1; rw [← HZ.out.1] at this; exact this
              rw [HV1.out]
              have H10 := Lib.hid (H9.out.2.quiet k10)
              clear k10 H9
              go_wp2_with fail
              refine (pla_lines H10.out HCK.out).mono ?_
              rintro e W11 ⟨a11, cap11, rfl, r11, t11⟩
              have H11 := Lib.hid (And.intro r11 t11)
              clear r11 t11 H10
              have q1 : IntKind.i64.wrap (z.count + 1) = z.count + 1 := IntWalk.i64_in _ (by have := HZ.out.2; omega)
              go_wp2_with fail
              clear q1
              refine (verify_any c2.base c2.ls a11 cap11 ⟨z.count + 1, z.hash⟩ W11 H11.out.1 HCK.out.len HF.out.ok HF.out.bash).mono ?_
              rintro e W12 ⟨rfl, k12⟩
              rw [HV2.out]
              have H12 := Lib.hid (H11.out.2.quiet k12).plc
              clear k12 H11 ch2
              go_wp2_with fail
              go_roundw
              case rel => exact ⟨k + 1, c2, a5, cap5, by go_num, by omega, H12.out, HF.out⟩
              case measure => simp [intOf]; omega
        · obtain rfl : k = l.length := by omega
          go_wp2_with fail
          exact bodyPost_ret (results_tmp rfl _ _ _) rfl ⟨rfl, H1.out.2.trans HW.out.1.out⟩

theorem AuditPlays_walk (v0 : Value) (w : World) {b0 : Nat} (hv0 : Value.okWide Try.prog w .any b0 22 v0) (h0 : Op Try.prog w 22 v0.cells.toList) :
    Calls Try.prog 3 #[v0] w fun e w' => e = .returned (.bool true) ∧ Below w.heap.size w w' := by
  obtain ⟨a, n, cap, rfl⟩ := okWide_slice Try.underlying22 hv0
  obtain ⟨a', cap', l, e, hl, hr, hx⟩ := op_ops h0
  injection e with e1 e2 e3
  subst e1 e2 e3
  exact (plays19_any l _ _ w hr hl hx).mono fun e w' ⟨he, k⟩ => ⟨he, k.below0⟩

set_option maxRecDepth 100000 in
theorem AuditPlays_lifted (os : Os) (started : os.Started) (H : Type) (enc : TypeId × Value → H) :
    ReturnsInHanded {} Try.checked os 3 .any (Rows.auditPlaysSpec.pre6 enc Try.prog Try.f3 Rows.auditPlaysRow.domain false) (Rows.auditPlaysSpec.post enc Try.prog Try.f3 false true false false) := by
  refine returnsInHanded_of_change_sized (C := Try.checked) (by kernel_rfl) started (by kernel_rfl) Try.func3
    (ChangeSpec.witness6 (enc := enc) (C := Try.checked) false ⟨#[], #[.slice none 0 0], []⟩ 8 (by kernel_rfl) (by kernel_rfl) (by kernel_rfl) (by kernel_rfl)) ?_
  intro W base args ds gs before hval0 hW hcnd hsz0 _
  have hval : ∀ (j : Nat) t v, Try.f3.params[j]? = some t → args[j]? = some v → Value.okWide Try.prog W .any base t v := hval0
  have hsz : (DataW.weightsEach Try.prog (Try.f3.params.toList ++ Rows.auditPlaysSpec.plain.varTypes Try.prog) (ds ++ gs)).all (· ≤ reachBytes) = true := hsz0
  have hW' := hW
  obtain ⟨p, q, hA0, hV, rfl, hfz, hnd⟩ := hW
  have hA : DataW.TrodAll enc Try.prog W 0 (fun _ => true) true Try.f3.params.toList args.toList ds p := hA0
  rw [Try.params3] at hA hval hsz
  obtain ⟨v0, vs0, d0, ds0, p0, q0, hargs, rfl, rfl, h0, r0⟩ := trodAll_cons hA
  obtain ⟨rfl, rfl, rfl⟩ := trodAll_nil r0
  obtain rfl : args = #[v0] := by cases args; simp_all
  obtain ⟨rfl, rfl⟩ := trodVars_none hV
  have lt0 : ∀ x ∈ p0, x.block < W.heap.size := by obtain ⟨m, hm⟩ := h0; exact DataW.trod_lt m _ _ _ hm
  have o0 := op_of hsz (j := 0) rfl rfl h0
  refine (AuditPlays_walk v0 W (hval 0 _ v0 rfl rfl) o0).mono fun e W' ⟨he, bel⟩ => ?_
  subst he
  exact ⟨_, rfl, _, _, _, [], _, [], hW', trodAll_mk1 (shut_bool Try.underlying4 _), (trodAll_cons_mk (Below.trod (by kernel_rfl) (by kernel_rfl) (of_decide_eq_true (by kernel_rfl)) h0 bel lt0) trodAll_mk0), rfl, bel.frame _, fun h => by cases h⟩

/-- The statement. -/
theorem AuditPlays_holds : Rows.AuditPlaysSaid :=
  OpenClaim.holds_of_wide 3 Try.f3 rfl rfl rfl rfl rfl rfl rfl ⟨rfl, rfl, rfl, rfl, rfl⟩ rfl rfl rfl rfl rfl (by kernel_rfl) Try.func3 (by kernel_rfl)
    (of_decide_eq_true (by kernel_rfl)) (by unfold Func.isWrapper; rw [if_neg (of_decide_eq_false (by kernel_rfl))]; exact ⟨rfl, rfl⟩)
    (fun os started H enc _ => AuditPlays_lifted os started H enc)
#print axioms AuditPlays_holds
end Go.Proofs.Ytdiacfbflbenoaa
