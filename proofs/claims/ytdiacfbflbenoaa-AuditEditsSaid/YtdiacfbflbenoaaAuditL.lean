/-
  The reference's chain: Head, Add, Cut. Condition: a chain of at most 2^40 lines.
-/
import Derived.Test.YtdiacfbflbenoaaAuditCutsPlain
import Derived.Test.YtdiacfbflbenoaaAuditK
namespace Go.Proofs.Ytdiacfbflbenoaa
open Go.RowKit
set_option linter.unusedSimpArgs false
set_option linter.unusedVariables false
set_option maxRecDepth 100000

set_option maxHeartbeats 2000000 in
theorem refHead_any (c : Ch) (a : Option Addr) (cap : Nat) (w : World) (h2 : Row w 8 a c.ls.length cap (lncs c.ls)) (hc : ChOk c) :
    Calls Try.prog 27 #[.agg #[.int .i64 c.base.count, Str c.base.hash, .slice a c.ls.length cap]] w fun e w' => e = .returned (.tuple #[.int .i64 (headL c.base c.ls).count, Str (headL c.base c.ls).hash]) ∧ Step [] [] w w' := by
  obtain ⟨⟨count, hash⟩, ls⟩ := c
  obtain ⟨⟨hc1, hc2⟩, hc3⟩ := hc
  simp only at h2 hc1 hc2 hc3 ⊢
  rcases List.eq_nil_or_concat ls with hl | ⟨ys, x, hl⟩
  · subst hl
    clear h2
    go_enter Try.func27, Try.ntmps27
    go_wp2_with fail
    go_quiet (fail)
    go_wp2_with fail
    exact bodyPost_ret (results_tmp2 rfl _ _ _) rfl ⟨rfl, ((Step.refl [] w).alloc _).drewN _⟩
  · rw [List.concat_eq_append] at hl
    subst hl
    rw [headL_snoc]
    have hln : (ys ++ [x]).length = ys.length + 1 := by simp
    rw [hln] at h2 hc3 ⊢
    obtain ⟨g, off, rfl⟩ := h2.some_of_pos (by omega)
    have hg := h2.lt g (by simp [blks])
    have hx : (ys ++ [x])[ys.length]? = some x := by simp
    have cl := (rd_line h2.rd hx).2.2.2.2.2.2.2
    have hz : (((ys.length + 1 : Nat) : Int) == 0) = false := by simp; omega
    have hz' : ((ys.length : Int) + 1 == 0) = false := by simp; omega
    clear h2 hx hln
    go_enter Try.func27, Try.ntmps27
    go_wp2_with fail
    have q1 : IntKind.i64.wrap (ys.length : Int) = (ys.length : Int) := IntWalk.i64_in _ (by omega)
    have q2 : IntKind.i64.wrap (count + ((ys.length : Int) + 1)) = count + ((ys.length : Int) + 1) := IntWalk.i64_in _ (by omega)
    have q3 : (ys.length : Int) < (ys.length : Int) + 1 := by omega
    have q4 : (0 : Int) ≤ (ys.length : Int) := by omega
    have q5 : ys.length < ys.length + 1 := by omega
    have HCNT := Lib.hid (show count + ((ys.length : Int) + 1) = count + (ys.length : Int) + 1 by omega)
    go_quiet (fail)
    clear q1 q2 q3 q4 q5
    go_wp2_with fail
    exact bodyPost_ret (results_tmp2 rfl _ _ _) rfl ⟨by rw [← HCNT.out]; rfl, ((Step.refl [] w).alloc _).drewN _⟩

theorem Blk.put3 {w : World} {b : Nat} {T : TypeId} {x y z : Value} (h : Blk w b T #[x, y, z]) (u v t : Value) : (((w.setCell ⟨b, 0, none⟩ u).setCell ⟨b, 1, none⟩ v).setCell ⟨b, 2, none⟩ t).cell? ⟨b, 0, none⟩ = some u ∧ (((w.setCell ⟨b, 0, none⟩ u).setCell ⟨b, 1, none⟩ v).setCell ⟨b, 2, none⟩ t).cell? ⟨b, 1, none⟩ = some v ∧ (((w.setCell ⟨b, 0, none⟩ u).setCell ⟨b, 1, none⟩ v).setCell ⟨b, 2, none⟩ t).cell? ⟨b, 2, none⟩ = some t := by
  have k := ((Blk.set h 0 u).set 1 v).set 2 t
  have h0 := k.cell 0
  have h1 := k.cell 1
  have h2 := k.cell 2
  exact ⟨by simpa using h0, by simpa using h1, by simpa using h2⟩
theorem blk3 (w : World) (t0 t1 t2 : TypeId) (c0 c1 c2 : Array Value) : Blk (((w.alloc (.cells c0 t0)).alloc (.cells c1 t1)).alloc (.cells c2 t2)) w.heap.size t0 c0 ∧ Blk (((w.alloc (.cells c0 t0)).alloc (.cells c1 t1)).alloc (.cells c2 t2)) (w.heap.size + 1) t1 c1 ∧ Blk (((w.alloc (.cells c0 t0)).alloc (.cells c1 t1)).alloc (.cells c2 t2)) (w.heap.size + 1 + 1) t2 c2 := by
  have s1 : ∀ o, (w.alloc o).heap.size = w.heap.size + 1 := fun o => by simp
  have s2 : ∀ o o', ((w.alloc o).alloc o').heap.size = w.heap.size + 1 + 1 := fun o o' => by simp
  refine ⟨((Blk.new w t0 c0).alloc _).alloc _, ?_, ?_⟩
  · have := (Blk.new (w.alloc (.cells c0 t0)) t1 c1).alloc (.cells c2 t2)
    rwa [s1] at this
  · have := Blk.new ((w.alloc (.cells c0 t0)).alloc (.cells c1 t1)) t2 c2
    rwa [s2] at this
theorem step_new {w w1 w' : World} {S S' : List Nat} (h : Step [] [] w w1) (k : Step S S' w1 w') (hS : ∀ g, g ∈ S → w.heap.size ≤ g) : Step [] S' w w' :=
  ⟨k.os.trans h.os, k.tape.trans h.tape, k.output.trans h.output, Nat.le_trans h.size k.size, fun g hg _ => by
    refine (k.block g (Nat.lt_of_lt_of_le hg h.size) fun hm => ?_).trans (h.block g hg (by simp))
    have := hS g hm
    omega, fun g hg => by
    rcases k.fresh g hg with h1 | h1
    · exact .inr (hS g h1)
    · exact .inr (Nat.le_trans h.size h1)⟩
def RefAddPost (c' : Ch) (ok : Bool) (a : Option Addr) (w : World) (e : Ending) (w' : World) : Prop :=
  ∃ a' cap', e = .returned (.tuple #[.agg #[.int .i64 c'.base.count, Str c'.base.hash, .slice a' c'.ls.length cap'], .bool ok]) ∧ Row w' 8 a' c'.ls.length cap' (lncs c'.ls) ∧ Step [] [] w w' ∧ ∀ g, g ∈ blks a' → g ∈ blks a ∨ w.heap.size ≤ g

set_option maxHeartbeats 8000000 in
theorem refAdd_any (c : Ch) (x : Ln) (a : Option Addr) (cap : Nat) (w : World) (h2 : Row w 8 a c.ls.length cap (lncs c.ls)) (hc : ChOk c) (hx : LnOk x) (hh : (headL c.base c.ls).hash.length ≤ 1073741824) :
    Calls Try.prog 11 #[.agg #[.int .i64 c.base.count, Str c.base.hash, .slice a c.ls.length cap], lnV x] w (RefAddPost (addL c x) (canAdd c x) a w) := by
  have HB : Hid (Blk (((w.alloc (.cells #[.int .i64 c.base.count, Str c.base.hash, .slice a c.ls.length cap] 29)).alloc (.cells (lnc x).toArray 32)).alloc (.cells #[.int .i64 0, Str [], .slice none 0 0] 29)) w.heap.size 29 #[.int .i64 c.base.count, Str c.base.hash, .slice a c.ls.length cap] ∧ Blk (((w.alloc (.cells #[.int .i64 c.base.count, Str c.base.hash, .slice a c.ls.length cap] 29)).alloc (.cells (lnc x).toArray 32)).alloc (.cells #[.int .i64 0, Str [], .slice none 0 0] 29)) (w.heap.size + 1) 32 (lnc x).toArray ∧ Blk (((w.alloc (.cells #[.int .i64 c.base.count, Str c.base.hash, .slice a c.ls.length cap] 29)).alloc (.cells (lnc x).toArray 32)).alloc (.cells #[.int .i64 0, Str [], .slice none 0 0] 29)) (w.heap.size + 1 + 1) 29 #[.int .i64 0, Str [], .slice none 0 0]) := blk3 w _ _ _ _ _ _
  have HR : Hid (Row (((w.alloc (.cells #[.int .i64 c.base.count, Str c.base.hash, .slice a c.ls.length cap] 29)).alloc (.cells (lnc x).toArray 32)).alloc (.cells #[.int .i64 0, Str [], .slice none 0 0] 29)) 8 a c.ls.length cap (lncs c.ls) ∧ Row w 8 a c.ls.length cap (lncs c.ls) ∧ Step [] [] w (((w.alloc (.cells #[.int .i64 c.base.count, Str c.base.hash, .slice a c.ls.length cap] 29)).alloc (.cells (lnc x).toArray 32)).alloc (.cells #[.int .i64 0, Str [], .slice none 0 0] 29))) := ⟨((h2.alloc _).alloc _).alloc _, h2, (((Step.refl [] w).alloc _).alloc _).alloc _⟩
  have HC := Lib.hid (And.intro hc (And.intro hx hh))
  clear h2 hc hx hh
  go_enter Try.func11, Try.ntmps11
  go_wp2_with fail
  refine (refHead_any c a cap _ HR.out.1 HC.out.1).mono ?_
  rintro e w1 ⟨rfl, k1⟩
  obtain ⟨b, hb⟩ : ∃ b, b = w.heap.size := ⟨_, rfl⟩
  have H1 : Hid (Blk w1 b 29 #[.int .i64 c.base.count, Str c.base.hash, .slice a c.ls.length cap] ∧ Blk w1 (b + 1) 32 (lnc x).toArray ∧ Blk w1 (b + 1 + 1) 29 #[.int .i64 0, Str [], .slice none 0 0] ∧ Row w1 8 a c.ls.length cap (lncs c.ls) ∧ Step [] [] w w1 ∧ b = w.heap.size) := by
    rw [hb]
    exact ⟨HB.out.1.step k1 (by simp), HB.out.2.1.step k1 (by simp), HB.out.2.2.step k1 (by simp), HR.out.1.step k1 (by simp), HR.out.2.2.trans k1, rfl⟩
  obtain ⟨q, hq⟩ : ∃ q, q = headL c.base c.ls := ⟨_, rfl⟩
  have HQ : Hid (q.count = c.base.count + c.ls.length ∧ q.hash.length ≤ 1073741824 ∧ q = headL c.base c.ls) := ⟨by rw [hq, headL_count], by rw [hq]; exact HC.out.2.2, hq⟩
  rw [← hb, ← hq]
  clear k1 HB hb hq
  cases hr : rightLn x with
  | false =>
    have HN := Lib.hid (show canAdd c x = false by simp [canAdd, hr])
    have HRT := Lib.hid hr
    have HNO : Hid (addL c x = c) := addL_no HN.out
    clear hr
    go_upto_region 2 with fail
    refine wp_region_held_drew (S := fun V => Hid (Blk V b 29 #[.int .i64 c.base.count, Str c.base.hash, .slice a c.ls.length cap] ∧ Blk V (b + 1) 32 (lnc x).toArray ∧ Rd V 8 a c.ls.length (lncs c.ls))) (by kernel_rfl) (Lib.hid ⟨H1.out.1.drew, H1.out.2.1.drew, H1.out.2.2.2.1.rd.drew⟩) (fun hHeld => ?_)
    refine wpAnyH_take (i := 0) (v := ?_) rfl (by kernel_rfl) (by kernel_rfl) (by kernel_rfl) (fun _ _ _ h => h) (Or.inl ⟨by rfl, ?_⟩) hHeld ?_
    rotate_left
    · intro w hSw
      have hSw1 := hSw
      clear hSw
      have hl0 := hSw1.out.2.1.ln
      have hl1 := hSw1.out.2.1.lt
      go_simp
      try (with_reducible rfl)
    try simp only [Act.put, List.setIfInBounds_toArray, List.set_cons_zero, List.set_cons_succ, List.getElem_toArray, List.getElem_cons_zero, List.getElem_cons_succ]
    refine wpAnyH_ready (rs := [1]) (by kernel_rfl) (by simp) ?_
    refine AllReadyH.cons rfl (fun K hK => ?_) AllReadyH.nil
    go_simp
    refine (refLineRight_any x w1.drew).mono ?_; rintro e w2 ⟨rfl, k2⟩; rw [HRT.out]; have H2 := Lib.hid k2; clear k2
    go_wp2_with fail
    refine hK.out _ _ (Lib.hid ⟨hHeld.out.1.step H2.out (by simp), hHeld.out.2.1.step H2.out (by simp), hHeld.out.2.2.step0 H2.out⟩) (fun hHeld2 => ?_)
    clear hK K hHeld
    try simp only [Act.put, List.setIfInBounds_toArray, List.set_cons_zero, List.set_cons_succ, List.getElem_toArray, List.getElem_cons_zero, List.getElem_cons_succ]
    refine wpAnyH_take (i := 2) (v := ?_) rfl (by kernel_rfl) (by kernel_rfl) (by kernel_rfl) (fun _ _ _ h => h) (Or.inl ⟨by rfl, ?_⟩) hHeld2 ?_
    rotate_left
    · intro w hSw
      have hSw1 := hSw
      clear hSw
      try dsimp only at hSw1
      go_simp
      try (with_reducible rfl)
    try simp only [Act.put, List.setIfInBounds_toArray, List.set_cons_zero, List.set_cons_succ, List.getElem_toArray, List.getElem_cons_zero, List.getElem_cons_succ]
    refine wpAnyH_take (i := 3) (v := ?_) rfl (by kernel_rfl) (by kernel_rfl) (by kernel_rfl) (fun _ _ _ h => h) (Or.inl ⟨by rfl, ?_⟩) hHeld2 ?_
    rotate_left
    · intro w hSw
      have hSw1 := hSw
      clear hSw
      try dsimp only at hSw1
      go_simp
      try (with_reducible rfl)
    try simp only [Act.put, List.setIfInBounds_toArray, List.set_cons_zero, List.set_cons_succ, List.getElem_toArray, List.getElem_cons_zero, List.getElem_cons_succ]
    refine wpAnyH_take (i := 4) (v := undef) rfl (by kernel_rfl) (by kernel_rfl) (by kernel_rfl) (fun _ _ _ h => h) (Or.inr ⟨by kernel_rfl, rfl⟩) hHeld2 ?_
    try simp only [Act.put, List.setIfInBounds_toArray, List.set_cons_zero, List.set_cons_succ, List.getElem_toArray, List.getElem_cons_zero, List.getElem_cons_succ]
    refine wpAnyH_take (i := 5) (v := undef) rfl (by kernel_rfl) (by kernel_rfl) (by kernel_rfl) (fun _ _ _ h => h) (Or.inr ⟨by kernel_rfl, rfl⟩) hHeld2 ?_
    try simp only [Act.put, List.setIfInBounds_toArray, List.set_cons_zero, List.set_cons_succ, List.getElem_toArray, List.getElem_cons_zero, List.getElem_cons_succ]
    refine wpAnyH_take (i := 6) (v := ?_) rfl (by kernel_rfl) (by kernel_rfl) (by kernel_rfl) (fun _ _ _ h => h) (Or.inl ⟨by rfl, ?_⟩) hHeld2 ?_
    rotate_left
    · intro w hSw
      have hSw1 := hSw
      clear hSw
      try dsimp only at hSw1
      go_simp
      try (with_reducible rfl)
    try simp only [Act.put, List.setIfInBounds_toArray, List.set_cons_zero, List.set_cons_succ, List.getElem_toArray, List.getElem_cons_zero, List.getElem_cons_succ]
    refine wpAnyH_take (i := 7) (v := ?_) rfl (by kernel_rfl) (by kernel_rfl) (by kernel_rfl) (fun _ _ _ h => h) (Or.inl ⟨by rfl, ?_⟩) hHeld2 ?_
    rotate_left
    · intro w hSw
      have hSw1 := hSw
      clear hSw
      try dsimp only at hSw1
      go_simp
      try (with_reducible rfl)
    try simp only [Act.put, List.setIfInBounds_toArray, List.set_cons_zero, List.set_cons_succ, List.getElem_toArray, List.getElem_cons_zero, List.getElem_cons_succ]
    refine wpAnyH_take (i := 8) (v := undef) rfl (by kernel_rfl) (by kernel_rfl) (by kernel_rfl) (fun _ _ _ h => h) (Or.inr ⟨by kernel_rfl, rfl⟩) hHeld2 ?_
    try simp only [Act.put, List.setIfInBounds_toArray, List.set_cons_zero, List.set_cons_succ, List.getElem_toArray, List.getElem_cons_zero, List.getElem_cons_succ]
    refine wpAnyH_take (i := 9) (v := undef) rfl (by kernel_rfl) (by kernel_rfl) (by kernel_rfl) (fun _ _ _ h => h) (Or.inr ⟨by kernel_rfl, rfl⟩) hHeld2 ?_
    try simp only [Act.put, List.setIfInBounds_toArray, List.set_cons_zero, List.set_cons_succ, List.getElem_toArray, List.getElem_cons_zero, List.getElem_cons_succ]
    refine wpAnyH_take (i := 10) (v := undef) rfl (by kernel_rfl) (by kernel_rfl) (by kernel_rfl) (fun _ _ _ h => h) (Or.inr ⟨by kernel_rfl, rfl⟩) hHeld2 ?_
    try simp only [Act.put, List.setIfInBounds_toArray, List.set_cons_zero, List.set_cons_succ, List.getElem_toArray, List.getElem_cons_zero, List.getElem_cons_succ]
    refine wpAnyH_take (i := 11) (v := undef) rfl (by kernel_rfl) (by kernel_rfl) (by kernel_rfl) (fun _ _ _ h => h) (Or.inr ⟨by kernel_rfl, rfl⟩) hHeld2 ?_
    try simp only [Act.put, List.setIfInBounds_toArray, List.set_cons_zero, List.set_cons_succ, List.getElem_toArray, List.getElem_cons_zero, List.getElem_cons_succ]
    refine wpAnyH_take (i := 12) (v := undef) rfl (by kernel_rfl) (by kernel_rfl) (by kernel_rfl) (fun _ _ _ h => h) (Or.inr ⟨by kernel_rfl, rfl⟩) hHeld2 ?_
    try simp only [Act.put, List.setIfInBounds_toArray, List.set_cons_zero, List.set_cons_succ, List.getElem_toArray, List.getElem_cons_zero, List.getElem_cons_succ]
    refine wpAnyH_take (i := 13) (v := undef) rfl (by kernel_rfl) (by kernel_rfl) (by kernel_rfl) (fun _ _ _ h => h) (Or.inr ⟨by kernel_rfl, rfl⟩) hHeld2 ?_
    try simp only [Act.put, List.setIfInBounds_toArray, List.set_cons_zero, List.set_cons_succ, List.getElem_toArray, List.getElem_cons_zero, List.getElem_cons_succ]
    refine wpAnyH_take (i := 14) (v := undef) rfl (by kernel_rfl) (by kernel_rfl) (by kernel_rfl) (fun _ _ _ h => h) (Or.inr ⟨by kernel_rfl, rfl⟩) hHeld2 ?_
    try simp only [Act.put, List.setIfInBounds_toArray, List.set_cons_zero, List.set_cons_succ, List.getElem_toArray, List.getElem_cons_zero, List.getElem_cons_succ]
    refine wpAnyH_take (i := 15) (v := undef) rfl (by kernel_rfl) (by kernel_rfl) (by kernel_rfl) (fun _ _ _ h => h) (Or.inr ⟨by kernel_rfl, rfl⟩) hHeld2 ?_
    try simp only [Act.put, List.setIfInBounds_toArray, List.set_cons_zero, List.set_cons_succ, List.getElem_toArray, List.getElem_cons_zero, List.getElem_cons_succ]
    refine wpAnyH_take (i := 16) (v := undef) rfl (by kernel_rfl) (by kernel_rfl) (by kernel_rfl) (fun _ _ _ h => h) (Or.inr ⟨by kernel_rfl, rfl⟩) hHeld2 ?_
    try simp only [Act.put, List.setIfInBounds_toArray, List.set_cons_zero, List.set_cons_succ, List.getElem_toArray, List.getElem_cons_zero, List.getElem_cons_succ]
    refine wpAnyH_take (i := 17) (v := undef) rfl (by kernel_rfl) (by kernel_rfl) (by kernel_rfl) (fun _ _ _ h => h) (Or.inr ⟨by kernel_rfl, rfl⟩) hHeld2 ?_
    try simp only [Act.put, List.setIfInBounds_toArray, List.set_cons_zero, List.set_cons_succ, List.getElem_toArray, List.getElem_cons_zero, List.getElem_cons_succ]
    refine wpAnyH_take (i := 18) (v := undef) rfl (by kernel_rfl) (by kernel_rfl) (by kernel_rfl) (fun _ _ _ h => h) (Or.inr ⟨by kernel_rfl, rfl⟩) hHeld2 ?_
    try simp only [Act.put, List.setIfInBounds_toArray, List.set_cons_zero, List.set_cons_succ, List.getElem_toArray, List.getElem_cons_zero, List.getElem_cons_succ]
    refine wpAnyH_take (i := 19) (v := undef) rfl (by kernel_rfl) (by kernel_rfl) (by kernel_rfl) (fun _ _ _ h => h) (Or.inr ⟨by kernel_rfl, rfl⟩) hHeld2 ?_
    try simp only [Act.put, List.setIfInBounds_toArray, List.set_cons_zero, List.set_cons_succ, List.getElem_toArray, List.getElem_cons_zero, List.getElem_cons_succ]
    refine wpAnyH_take (i := 20) (v := undef) rfl (by kernel_rfl) (by kernel_rfl) (by kernel_rfl) (fun _ _ _ h => h) (Or.inr ⟨by kernel_rfl, rfl⟩) hHeld2 ?_
    try simp only [Act.put, List.setIfInBounds_toArray, List.set_cons_zero, List.set_cons_succ, List.getElem_toArray, List.getElem_cons_zero, List.getElem_cons_succ]
    refine wpAnyH_take (i := 21) (v := undef) rfl (by kernel_rfl) (by kernel_rfl) (by kernel_rfl) (fun _ _ _ h => h) (Or.inr ⟨by kernel_rfl, rfl⟩) hHeld2 ?_
    try simp only [Act.put, List.setIfInBounds_toArray, List.set_cons_zero, List.set_cons_succ, List.getElem_toArray, List.getElem_cons_zero, List.getElem_cons_succ]
    refine wpAnyH_take (i := 22) (v := undef) rfl (by kernel_rfl) (by kernel_rfl) (by kernel_rfl) (fun _ _ _ h => h) (Or.inr ⟨by kernel_rfl, rfl⟩) hHeld2 ?_
    try simp only [Act.put, List.setIfInBounds_toArray, List.set_cons_zero, List.set_cons_succ, List.getElem_toArray, List.getElem_cons_zero, List.getElem_cons_succ]
    refine wpAnyH_take (i := 23) (v := undef) rfl (by kernel_rfl) (by kernel_rfl) (by kernel_rfl) (fun _ _ _ h => h) (Or.inr ⟨by kernel_rfl, rfl⟩) hHeld2 ?_
    try simp only [Act.put, List.setIfInBounds_toArray, List.set_cons_zero, List.set_cons_succ, List.getElem_toArray, List.getElem_cons_zero, List.getElem_cons_succ]
    refine wpAnyH_take (i := 24) (v := undef) rfl (by kernel_rfl) (by kernel_rfl) (by kernel_rfl) (fun _ _ _ h => h) (Or.inr ⟨by kernel_rfl, rfl⟩) hHeld2 ?_
    try simp only [Act.put, List.setIfInBounds_toArray, List.set_cons_zero, List.set_cons_succ, List.getElem_toArray, List.getElem_cons_zero, List.getElem_cons_succ]
    refine wpAnyH_take (i := 25) (v := undef) rfl (by kernel_rfl) (by kernel_rfl) (by kernel_rfl) (fun _ _ _ h => h) (Or.inr ⟨by kernel_rfl, rfl⟩) hHeld2 ?_
    try simp only [Act.put, List.setIfInBounds_toArray, List.set_cons_zero, List.set_cons_succ, List.getElem_toArray, List.getElem_cons_zero, List.getElem_cons_succ]
    refine wpAnyH_take (i := 26) (v := ?_) rfl (by kernel_rfl) (by kernel_rfl) (by kernel_rfl) (fun _ _ _ h => h) (Or.inl ⟨by rfl, ?_⟩) hHeld2 ?_
    rotate_left
    · intro w hSw
      have hSw1 := hSw
      clear hSw
      try dsimp only at hSw1
      go_simp
      try (with_reducible rfl)
    try simp only [Act.put, List.setIfInBounds_toArray, List.set_cons_zero, List.set_cons_succ, List.getElem_toArray, List.getElem_cons_zero, List.getElem_cons_succ]
    refine wpAnyH_done (by kernel_rfl) ?_ _
    have b0 := H1.out.1.drew.step H2.out (by simp)
    have z0 := H1.out.2.2.1.drew.step H2.out (by simp)
    have r0 := H1.out.2.2.2.1.drew.step H2.out (by simp)
    have K0 := Lib.hid (And.intro b0 (And.intro z0 (And.intro r0 (H1.out.2.2.2.2.1.drew.trans H2.out))))
    have e0 := K0.out.1.cell 0
    have e1 := K0.out.1.cell 1
    have e2 := K0.out.1.cell 2
    have e3 := K0.out.1.lt
    have z1 := K0.out.2.1.lt
    have zf0 := K0.out.2.1.frozen 0
    have zf1 := K0.out.2.1.frozen 1
    have zf2 := K0.out.2.1.frozen 2
    have zc0 := K0.out.2.1.cell 0
    have zc1 := K0.out.2.1.cell 1
    have zc2 := K0.out.2.1.cell 2
    simp only [List.getElem?_toArray, List.getElem?_cons_zero, List.getElem?_cons_succ] at e0 e1 e2 zc0 zc1 zc2
    clear b0 z0 r0
    go_wp2_with fail
    have P3 := Blk.put3 K0.out.2.1 (.int .i64 c.base.count) (Str c.base.hash) (.slice a (c.ls.length) cap)
    have SS : Step [b + 1 + 1] [b + 1 + 1] w2 (((w2.setCell ⟨b + 1 + 1, 0, none⟩ (.int .i64 c.base.count)).setCell ⟨b + 1 + 1, 1, none⟩ (Str c.base.hash)).setCell ⟨b + 1 + 1, 2, none⟩ (.slice a (c.ls.length) cap)) := (((Step.refl _ w2).setCell (.inl (by simp)) _).setCell (.inl (by simp)) _).setCell (.inl (by simp)) _
    have SW : Step [] [] w (((w2.setCell ⟨b + 1 + 1, 0, none⟩ (.int .i64 c.base.count)).setCell ⟨b + 1 + 1, 1, none⟩ (Str c.base.hash)).setCell ⟨b + 1 + 1, 2, none⟩ (.slice a (c.ls.length) cap)) := by
      have hbw := H1.out.2.2.2.2.2
      exact ((K0.out.2.2.2.setCell (.inr (by simp; omega)) _).setCell (.inr (by simp; omega)) _).setCell (.inr (by simp; omega)) _
    refine bodyPost_ret (v := .tuple #[.agg #[.int .i64 c.base.count, Str c.base.hash, .slice a (c.ls.length) cap], .bool false]) ?_ rfl ⟨a, cap, ?_, ?_, SW, fun g hg => .inl hg⟩
    · simp [results, Try.results11, go_sem, P3]
    · rw [HN.out, HNO.out]
    · rw [HNO.out]
      refine K0.out.2.2.1.step SS (fun g hg e => ?_)
      have := HR.out.2.1.lt g hg
      have hbw := H1.out.2.2.2.2.2
      simp at e
      omega
  | true =>
    have HRT := Lib.hid hr
    clear hr
    have hll := HC.out.1.len
    have hcc := HC.out.1.count
    by_cases hm : 1099511627776 ≤ q.count
    · have HN := Lib.hid (show canAdd c x = false by have := HQ.out.2.2; rw [this] at hm; simp [canAdd]; omega)
      have HNO : Hid (addL c x = c) := addL_no HN.out
      have hmd : decide (1099511627776 ≤ q.count) = true := decide_eq_true hm
      clear hm
      go_upto_region 2 with fail
      refine wp_region_held_drew (S := fun V => Hid (Blk V b 29 #[.int .i64 c.base.count, Str c.base.hash, .slice a c.ls.length cap] ∧ Blk V (b + 1) 32 (lnc x).toArray ∧ Rd V 8 a c.ls.length (lncs c.ls))) (by kernel_rfl) (Lib.hid ⟨H1.out.1.drew, H1.out.2.1.drew, H1.out.2.2.2.1.rd.drew⟩) (fun hHeld => ?_)
      refine wpAnyH_take (i := 0) (v := ?_) rfl (by kernel_rfl) (by kernel_rfl) (by kernel_rfl) (fun _ _ _ h => h) (Or.inl ⟨by rfl, ?_⟩) hHeld ?_
      rotate_left
      · intro w hSw
        have hSw1 := hSw
        clear hSw
        have hl0 := hSw1.out.2.1.ln
        have hl1 := hSw1.out.2.1.lt
        go_simp
        try (with_reducible rfl)
      try simp only [Act.put, List.setIfInBounds_toArray, List.set_cons_zero, List.set_cons_succ, List.getElem_toArray, List.getElem_cons_zero, List.getElem_cons_succ]
      refine wpAnyH_ready (rs := [1]) (by kernel_rfl) (by simp) ?_
      refine AllReadyH.cons rfl (fun K hK => ?_) AllReadyH.nil
      go_simp
      refine (refLineRight_any x w1.drew).mono ?_; rintro e w2 ⟨rfl, k2⟩; rw [HRT.out]; have H2 := Lib.hid k2; clear k2
      go_wp2_with fail
      refine hK.out _ _ (Lib.hid ⟨hHeld.out.1.step H2.out (by simp), hHeld.out.2.1.step H2.out (by simp), hHeld.out.2.2.step0 H2.out⟩) (fun hHeld2 => ?_)
      clear hK K hHeld
      try simp only [Act.put, List.setIfInBounds_toArray, List.set_cons_zero, List.set_cons_succ, List.getElem_toArray, List.getElem_cons_zero, List.getElem_cons_succ]
      refine wpAnyH_take (i := 2) (v := ?_) rfl (by kernel_rfl) (by kernel_rfl) (by kernel_rfl) (fun _ _ _ h => h) (Or.inl ⟨by rfl, ?_⟩) hHeld2 ?_
      rotate_left
      · intro w hSw
        have hSw1 := hSw
        clear hSw
        try dsimp only at hSw1
        go_simp
        try (with_reducible rfl)
      try simp only [Act.put, List.setIfInBounds_toArray, List.set_cons_zero, List.set_cons_succ, List.getElem_toArray, List.getElem_cons_zero, List.getElem_cons_succ]
      refine wpAnyH_take (i := 3) (v := ?_) rfl (by kernel_rfl) (by kernel_rfl) (by kernel_rfl) (fun _ _ _ h => h) (Or.inl ⟨by rfl, ?_⟩) hHeld2 ?_
      rotate_left
      · intro w hSw
        have hSw1 := hSw
        clear hSw
        try dsimp only at hSw1
        go_simp
        try (with_reducible rfl)
      try simp only [Act.put, List.setIfInBounds_toArray, List.set_cons_zero, List.set_cons_succ, List.getElem_toArray, List.getElem_cons_zero, List.getElem_cons_succ]
      refine wpAnyH_take (i := 4) (v := ?_) rfl (by kernel_rfl) (by kernel_rfl) (by kernel_rfl) (fun _ _ _ h => h) (Or.inl ⟨by rfl, ?_⟩) hHeld2 ?_
      rotate_left
      · intro w hSw
        have hSw1 := hSw
        clear hSw
        try dsimp only at hSw1
        go_simp
        try (with_reducible rfl)
      try simp only [Act.put, List.setIfInBounds_toArray, List.set_cons_zero, List.set_cons_succ, List.getElem_toArray, List.getElem_cons_zero, List.getElem_cons_succ]
      refine wpAnyH_take (i := 5) (v := ?_) rfl (by kernel_rfl) (by kernel_rfl) (by kernel_rfl) (fun _ _ _ h => h) (Or.inl ⟨by rfl, ?_⟩) hHeld2 ?_
      rotate_left
      · intro w hSw
        have hSw1 := hSw
        clear hSw
        try dsimp only at hSw1
        go_simp
        try (with_reducible rfl)
      try simp only [Act.put, List.setIfInBounds_toArray, List.set_cons_zero, List.set_cons_succ, List.getElem_toArray, List.getElem_cons_zero, List.getElem_cons_succ]
      refine wpAnyH_take (i := 6) (v := ?_) rfl (by kernel_rfl) (by kernel_rfl) (by kernel_rfl) (fun _ _ _ h => h) (Or.inl ⟨by rfl, ?_⟩) hHeld2 ?_
      rotate_left
      · intro w hSw
        have hSw1 := hSw
        clear hSw
        try dsimp only at hSw1
        go_simp
        try (with_reducible rfl)
      try simp only [Act.put, List.setIfInBounds_toArray, List.set_cons_zero, List.set_cons_succ, List.getElem_toArray, List.getElem_cons_zero, List.getElem_cons_succ]
      refine wpAnyH_take (i := 7) (v := ?_) rfl (by kernel_rfl) (by kernel_rfl) (by kernel_rfl) (fun _ _ _ h => h) (Or.inl ⟨by rfl, ?_⟩) hHeld2 ?_
      rotate_left
      · intro w hSw
        have hSw1 := hSw
        clear hSw
        try dsimp only at hSw1
        go_simp
        try (with_reducible rfl)
      try simp only [Act.put, List.setIfInBounds_toArray, List.set_cons_zero, List.set_cons_succ, List.getElem_toArray, List.getElem_cons_zero, List.getElem_cons_succ]
      refine wpAnyH_take (i := 8) (v := undef) rfl (by kernel_rfl) (by kernel_rfl) (by kernel_rfl) (fun _ _ _ h => h) (Or.inr ⟨by kernel_rfl, rfl⟩) hHeld2 ?_
      try simp only [Act.put, List.setIfInBounds_toArray, List.set_cons_zero, List.set_cons_succ, List.getElem_toArray, List.getElem_cons_zero, List.getElem_cons_succ]
      refine wpAnyH_take (i := 9) (v := undef) rfl (by kernel_rfl) (by kernel_rfl) (by kernel_rfl) (fun _ _ _ h => h) (Or.inr ⟨by kernel_rfl, rfl⟩) hHeld2 ?_
      try simp only [Act.put, List.setIfInBounds_toArray, List.set_cons_zero, List.set_cons_succ, List.getElem_toArray, List.getElem_cons_zero, List.getElem_cons_succ]
      refine wpAnyH_take (i := 10) (v := undef) rfl (by kernel_rfl) (by kernel_rfl) (by kernel_rfl) (fun _ _ _ h => h) (Or.inr ⟨by kernel_rfl, rfl⟩) hHeld2 ?_
      try simp only [Act.put, List.setIfInBounds_toArray, List.set_cons_zero, List.set_cons_succ, List.getElem_toArray, List.getElem_cons_zero, List.getElem_cons_succ]
      refine wpAnyH_take (i := 11) (v := undef) rfl (by kernel_rfl) (by kernel_rfl) (by kernel_rfl) (fun _ _ _ h => h) (Or.inr ⟨by kernel_rfl, rfl⟩) hHeld2 ?_
      try simp only [Act.put, List.setIfInBounds_toArray, List.set_cons_zero, List.set_cons_succ, List.getElem_toArray, List.getElem_cons_zero, List.getElem_cons_succ]
      refine wpAnyH_take (i := 12) (v := undef) rfl (by kernel_rfl) (by kernel_rfl) (by kernel_rfl) (fun _ _ _ h => h) (Or.inr ⟨by kernel_rfl, rfl⟩) hHeld2 ?_
      try simp only [Act.put, List.setIfInBounds_toArray, List.set_cons_zero, List.set_cons_succ, List.getElem_toArray, List.getElem_cons_zero, List.getElem_cons_succ]
      refine wpAnyH_take (i := 13) (v := undef) rfl (by kernel_rfl) (by kernel_rfl) (by kernel_rfl) (fun _ _ _ h => h) (Or.inr ⟨by kernel_rfl, rfl⟩) hHeld2 ?_
      try simp only [Act.put, List.setIfInBounds_toArray, List.set_cons_zero, List.set_cons_succ, List.getElem_toArray, List.getElem_cons_zero, List.getElem_cons_succ]
      refine wpAnyH_take (i := 14) (v := undef) rfl (by kernel_rfl) (by kernel_rfl) (by kernel_rfl) (fun _ _ _ h => h) (Or.inr ⟨by kernel_rfl, rfl⟩) hHeld2 ?_
      try simp only [Act.put, List.setIfInBounds_toArray, List.set_cons_zero, List.set_cons_succ, List.getElem_toArray, List.getElem_cons_zero, List.getElem_cons_succ]
      refine wpAnyH_take (i := 15) (v := undef) rfl (by kernel_rfl) (by kernel_rfl) (by kernel_rfl) (fun _ _ _ h => h) (Or.inr ⟨by kernel_rfl, rfl⟩) hHeld2 ?_
      try simp only [Act.put, List.setIfInBounds_toArray, List.set_cons_zero, List.set_cons_succ, List.getElem_toArray, List.getElem_cons_zero, List.getElem_cons_succ]
      refine wpAnyH_take (i := 16) (v := undef) rfl (by kernel_rfl) (by kernel_rfl) (by kernel_rfl) (fun _ _ _ h => h) (Or.inr ⟨by kernel_rfl, rfl⟩) hHeld2 ?_
      try simp only [Act.put, List.setIfInBounds_toArray, List.set_cons_zero, List.set_cons_succ, List.getElem_toArray, List.getElem_cons_zero, List.getElem_cons_succ]
      refine wpAnyH_take (i := 17) (v := undef) rfl (by kernel_rfl) (by kernel_rfl) (by kernel_rfl) (fun _ _ _ h => h) (Or.inr ⟨by kernel_rfl, rfl⟩) hHeld2 ?_
      try simp only [Act.put, List.setIfInBounds_toArray, List.set_cons_zero, List.set_cons_succ, List.getElem_toArray, List.getElem_cons_zero, List.getElem_cons_succ]
      refine wpAnyH_take (i := 18) (v := undef) rfl (by kernel_rfl) (by kernel_rfl) (by kernel_rfl) (fun _ _ _ h => h) (Or.inr ⟨by kernel_rfl, rfl⟩) hHeld2 ?_
      try simp only [Act.put, List.setIfInBounds_toArray, List.set_cons_zero, List.set_cons_succ, List.getElem_toArray, List.getElem_cons_zero, List.getElem_cons_succ]
      refine wpAnyH_take (i := 19) (v := undef) rfl (by kernel_rfl) (by kernel_rfl) (by kernel_rfl) (fun _ _ _ h => h) (Or.inr ⟨by kernel_rfl, rfl⟩) hHeld2 ?_
      try simp only [Act.put, List.setIfInBounds_toArray, List.set_cons_zero, List.set_cons_succ, List.getElem_toArray, List.getElem_cons_zero, List.getElem_cons_succ]
      refine wpAnyH_take (i := 20) (v := undef) rfl (by kernel_rfl) (by kernel_rfl) (by kernel_rfl) (fun _ _ _ h => h) (Or.inr ⟨by kernel_rfl, rfl⟩) hHeld2 ?_
      try simp only [Act.put, List.setIfInBounds_toArray, List.set_cons_zero, List.set_cons_succ, List.getElem_toArray, List.getElem_cons_zero, List.getElem_cons_succ]
      refine wpAnyH_take (i := 21) (v := undef) rfl (by kernel_rfl) (by kernel_rfl) (by kernel_rfl) (fun _ _ _ h => h) (Or.inr ⟨by kernel_rfl, rfl⟩) hHeld2 ?_
      try simp only [Act.put, List.setIfInBounds_toArray, List.set_cons_zero, List.set_cons_succ, List.getElem_toArray, List.getElem_cons_zero, List.getElem_cons_succ]
      refine wpAnyH_take (i := 22) (v := undef) rfl (by kernel_rfl) (by kernel_rfl) (by kernel_rfl) (fun _ _ _ h => h) (Or.inr ⟨by kernel_rfl, rfl⟩) hHeld2 ?_
      try simp only [Act.put, List.setIfInBounds_toArray, List.set_cons_zero, List.set_cons_succ, List.getElem_toArray, List.getElem_cons_zero, List.getElem_cons_succ]
      refine wpAnyH_take (i := 23) (v := undef) rfl (by kernel_rfl) (by kernel_rfl) (by kernel_rfl) (fun _ _ _ h => h) (Or.inr ⟨by kernel_rfl, rfl⟩) hHeld2 ?_
      try simp only [Act.put, List.setIfInBounds_toArray, List.set_cons_zero, List.set_cons_succ, List.getElem_toArray, List.getElem_cons_zero, List.getElem_cons_succ]
      refine wpAnyH_take (i := 24) (v := undef) rfl (by kernel_rfl) (by kernel_rfl) (by kernel_rfl) (fun _ _ _ h => h) (Or.inr ⟨by kernel_rfl, rfl⟩) hHeld2 ?_
      try simp only [Act.put, List.setIfInBounds_toArray, List.set_cons_zero, List.set_cons_succ, List.getElem_toArray, List.getElem_cons_zero, List.getElem_cons_succ]
      refine wpAnyH_take (i := 25) (v := undef) rfl (by kernel_rfl) (by kernel_rfl) (by kernel_rfl) (fun _ _ _ h => h) (Or.inr ⟨by kernel_rfl, rfl⟩) hHeld2 ?_
      try simp only [Act.put, List.setIfInBounds_toArray, List.set_cons_zero, List.set_cons_succ, List.getElem_toArray, List.getElem_cons_zero, List.getElem_cons_succ]
      refine wpAnyH_take (i := 26) (v := ?_) rfl (by kernel_rfl) (by kernel_rfl) (by kernel_rfl) (fun _ _ _ h => h) (Or.inl ⟨by rfl, ?_⟩) hHeld2 ?_
      rotate_left
      · intro w hSw
        have hSw1 := hSw
        clear hSw
        try dsimp only at hSw1
        go_simp
        try (with_reducible rfl)
      try simp only [Act.put, List.setIfInBounds_toArray, List.set_cons_zero, List.set_cons_succ, List.getElem_toArray, List.getElem_cons_zero, List.getElem_cons_succ]
      refine wpAnyH_done (by kernel_rfl) ?_ _
      have b0 := H1.out.1.drew.step H2.out (by simp)
      have z0 := H1.out.2.2.1.drew.step H2.out (by simp)
      have r0 := H1.out.2.2.2.1.drew.step H2.out (by simp)
      have K0 := Lib.hid (And.intro b0 (And.intro z0 (And.intro r0 (H1.out.2.2.2.2.1.drew.trans H2.out))))
      have e0 := K0.out.1.cell 0
      have e1 := K0.out.1.cell 1
      have e2 := K0.out.1.cell 2
      have e3 := K0.out.1.lt
      have z1 := K0.out.2.1.lt
      have zf0 := K0.out.2.1.frozen 0
      have zf1 := K0.out.2.1.frozen 1
      have zf2 := K0.out.2.1.frozen 2
      have zc0 := K0.out.2.1.cell 0
      have zc1 := K0.out.2.1.cell 1
      have zc2 := K0.out.2.1.cell 2
      simp only [List.getElem?_toArray, List.getElem?_cons_zero, List.getElem?_cons_succ] at e0 e1 e2 zc0 zc1 zc2
      clear b0 z0 r0
      go_wp2_with fail
      have P3 := Blk.put3 K0.out.2.1 (.int .i64 c.base.count) (Str c.base.hash) (.slice a (c.ls.length) cap)
      have SS : Step [b + 1 + 1] [b + 1 + 1] w2 (((w2.setCell ⟨b + 1 + 1, 0, none⟩ (.int .i64 c.base.count)).setCell ⟨b + 1 + 1, 1, none⟩ (Str c.base.hash)).setCell ⟨b + 1 + 1, 2, none⟩ (.slice a (c.ls.length) cap)) := (((Step.refl _ w2).setCell (.inl (by simp)) _).setCell (.inl (by simp)) _).setCell (.inl (by simp)) _
      have SW : Step [] [] w (((w2.setCell ⟨b + 1 + 1, 0, none⟩ (.int .i64 c.base.count)).setCell ⟨b + 1 + 1, 1, none⟩ (Str c.base.hash)).setCell ⟨b + 1 + 1, 2, none⟩ (.slice a (c.ls.length) cap)) := by
        have hbw := H1.out.2.2.2.2.2
        exact ((K0.out.2.2.2.setCell (.inr (by simp; omega)) _).setCell (.inr (by simp; omega)) _).setCell (.inr (by simp; omega)) _
      refine bodyPost_ret (v := .tuple #[.agg #[.int .i64 c.base.count, Str c.base.hash, .slice a (c.ls.length) cap], .bool false]) ?_ rfl ⟨a, cap, ?_, ?_, SW, fun g hg => .inl hg⟩
      · simp [results, Try.results11, go_sem, P3]
      · rw [HN.out, HNO.out]
      · rw [HNO.out]
        refine K0.out.2.2.1.step SS (fun g hg e => ?_)
        have := HR.out.2.1.lt g hg
        have hbw := H1.out.2.2.2.2.2
        simp at e
        omega
    · have hmd : decide (1099511627776 ≤ q.count) = false := decide_eq_false hm
      rcases List.eq_nil_or_concat c.ls with hl | ⟨ys, y, hl⟩
      · have hl0 : c.ls.length = 0 := by rw [hl]; rfl
        have hld : decide (0 < c.ls.length) = false := decide_eq_false (by omega)
        have hYES := Lib.hid (show canAdd c x = true from canAdd_yes HRT.out (by rw [← HQ.out.2.2]; omega) (by rw [hl]; simp [lastI]))
        clear hl hl0 hm
        go_upto_region 2 with fail
        refine wp_region_held_drew (S := fun V => Hid (Blk V b 29 #[.int .i64 c.base.count, Str c.base.hash, .slice a c.ls.length cap] ∧ Blk V (b + 1) 32 (lnc x).toArray ∧ Rd V 8 a c.ls.length (lncs c.ls))) (by kernel_rfl) (Lib.hid ⟨H1.out.1.drew, H1.out.2.1.drew, H1.out.2.2.2.1.rd.drew⟩) (fun hHeld => ?_)
        refine wpAnyH_take (i := 0) (v := ?_) rfl (by kernel_rfl) (by kernel_rfl) (by kernel_rfl) (fun _ _ _ h => h) (Or.inl ⟨by rfl, ?_⟩) hHeld ?_
        rotate_left
        · intro w hSw
          have hSw1 := hSw
          clear hSw
          have hl0 := hSw1.out.2.1.ln
          have hl1 := hSw1.out.2.1.lt
          go_simp
          try (with_reducible rfl)
        try simp only [Act.put, List.setIfInBounds_toArray, List.set_cons_zero, List.set_cons_succ, List.getElem_toArray, List.getElem_cons_zero, List.getElem_cons_succ]
        refine wpAnyH_ready (rs := [1]) (by kernel_rfl) (by simp) ?_
        refine AllReadyH.cons rfl (fun K hK => ?_) AllReadyH.nil
        go_simp
        refine (refLineRight_any x w1.drew).mono ?_; rintro e w2 ⟨rfl, k2⟩; rw [HRT.out]; have H2 := Lib.hid k2; clear k2
        go_wp2_with fail
        refine hK.out _ _ (Lib.hid ⟨hHeld.out.1.step H2.out (by simp), hHeld.out.2.1.step H2.out (by simp), hHeld.out.2.2.step0 H2.out⟩) (fun hHeld2 => ?_)
        clear hK K hHeld
        try simp only [Act.put, List.setIfInBounds_toArray, List.set_cons_zero, List.set_cons_succ, List.getElem_toArray, List.getElem_cons_zero, List.getElem_cons_succ]
        refine wpAnyH_take (i := 2) (v := ?_) rfl (by kernel_rfl) (by kernel_rfl) (by kernel_rfl) (fun _ _ _ h => h) (Or.inl ⟨by rfl, ?_⟩) hHeld2 ?_
        rotate_left
        · intro w hSw
          have hSw1 := hSw
          clear hSw
          try dsimp only at hSw1
          go_simp
          try (with_reducible rfl)
        try simp only [Act.put, List.setIfInBounds_toArray, List.set_cons_zero, List.set_cons_succ, List.getElem_toArray, List.getElem_cons_zero, List.getElem_cons_succ]
        refine wpAnyH_take (i := 3) (v := ?_) rfl (by kernel_rfl) (by kernel_rfl) (by kernel_rfl) (fun _ _ _ h => h) (Or.inl ⟨by rfl, ?_⟩) hHeld2 ?_
        rotate_left
        · intro w hSw
          have hSw1 := hSw
          clear hSw
          try dsimp only at hSw1
          go_simp
          try (with_reducible rfl)
        try simp only [Act.put, List.setIfInBounds_toArray, List.set_cons_zero, List.set_cons_succ, List.getElem_toArray, List.getElem_cons_zero, List.getElem_cons_succ]
        refine wpAnyH_take (i := 4) (v := ?_) rfl (by kernel_rfl) (by kernel_rfl) (by kernel_rfl) (fun _ _ _ h => h) (Or.inl ⟨by rfl, ?_⟩) hHeld2 ?_
        rotate_left
        · intro w hSw
          have hSw1 := hSw
          clear hSw
          try dsimp only at hSw1
          go_simp
          try (with_reducible rfl)
        try simp only [Act.put, List.setIfInBounds_toArray, List.set_cons_zero, List.set_cons_succ, List.getElem_toArray, List.getElem_cons_zero, List.getElem_cons_succ]
        refine wpAnyH_take (i := 5) (v := ?_) rfl (by kernel_rfl) (by kernel_rfl) (by kernel_rfl) (fun _ _ _ h => h) (Or.inl ⟨by rfl, ?_⟩) hHeld2 ?_
        rotate_left
        · intro w hSw
          have hSw1 := hSw
          clear hSw
          try dsimp only at hSw1
          go_simp
          try (with_reducible rfl)
        try simp only [Act.put, List.setIfInBounds_toArray, List.set_cons_zero, List.set_cons_succ, List.getElem_toArray, List.getElem_cons_zero, List.getElem_cons_succ]
        refine wpAnyH_take (i := 6) (v := ?_) rfl (by kernel_rfl) (by kernel_rfl) (by kernel_rfl) (fun _ _ _ h => h) (Or.inl ⟨by rfl, ?_⟩) hHeld2 ?_
        rotate_left
        · intro w hSw
          have hSw1 := hSw
          clear hSw
          try dsimp only at hSw1
          go_simp
          try (with_reducible rfl)
        try simp only [Act.put, List.setIfInBounds_toArray, List.set_cons_zero, List.set_cons_succ, List.getElem_toArray, List.getElem_cons_zero, List.getElem_cons_succ]
        refine wpAnyH_take (i := 7) (v := ?_) rfl (by kernel_rfl) (by kernel_rfl) (by kernel_rfl) (fun _ _ _ h => h) (Or.inl ⟨by rfl, ?_⟩) hHeld2 ?_
        rotate_left
        · intro w hSw
          have hSw1 := hSw
          clear hSw
          try dsimp only at hSw1
          go_simp
          try (with_reducible rfl)
        try simp only [Act.put, List.setIfInBounds_toArray, List.set_cons_zero, List.set_cons_succ, List.getElem_toArray, List.getElem_cons_zero, List.getElem_cons_succ]
        refine wpAnyH_take (i := 8) (v := ?_) rfl (by kernel_rfl) (by kernel_rfl) (by kernel_rfl) (fun _ _ _ h => h) (Or.inl ⟨by rfl, ?_⟩) hHeld2 ?_
        rotate_left
        · intro w hSw
          have hSw1 := hSw
          clear hSw
          try dsimp only at hSw1
          go_simp
          try (with_reducible rfl)
        try simp only [Act.put, List.setIfInBounds_toArray, List.set_cons_zero, List.set_cons_succ, List.getElem_toArray, List.getElem_cons_zero, List.getElem_cons_succ]
        refine wpAnyH_take (i := 9) (v := ?_) rfl (by kernel_rfl) (by kernel_rfl) (by kernel_rfl) (fun _ _ _ h => h) (Or.inl ⟨by rfl, ?_⟩) hHeld2 ?_
        rotate_left
        · intro w hSw
          have hSw1 := hSw
          clear hSw
          have hb0 := hSw1.out.1.cell 2
          have hb1 := hSw1.out.1.lt
          simp only [List.getElem?_toArray, List.getElem?_cons_zero, List.getElem?_cons_succ] at hb0
          go_simp
          try (with_reducible rfl)
        try simp only [Act.put, List.setIfInBounds_toArray, List.set_cons_zero, List.set_cons_succ, List.getElem_toArray, List.getElem_cons_zero, List.getElem_cons_succ]
        refine wpAnyH_take (i := 10) (v := ?_) rfl (by kernel_rfl) (by kernel_rfl) (by kernel_rfl) (fun _ _ _ h => h) (Or.inl ⟨by rfl, ?_⟩) hHeld2 ?_
        rotate_left
        · intro w hSw
          have hSw1 := hSw
          clear hSw
          try dsimp only at hSw1
          go_simp
          try (with_reducible rfl)
        try simp only [Act.put, List.setIfInBounds_toArray, List.set_cons_zero, List.set_cons_succ, List.getElem_toArray, List.getElem_cons_zero, List.getElem_cons_succ]
        refine wpAnyH_take (i := 11) (v := ?_) rfl (by kernel_rfl) (by kernel_rfl) (by kernel_rfl) (fun _ _ _ h => h) (Or.inl ⟨by rfl, ?_⟩) hHeld2 ?_
        rotate_left
        · intro w hSw
          have hSw1 := hSw
          clear hSw
          try dsimp only at hSw1
          go_simp
          try (with_reducible rfl)
        try simp only [Act.put, List.setIfInBounds_toArray, List.set_cons_zero, List.set_cons_succ, List.getElem_toArray, List.getElem_cons_zero, List.getElem_cons_succ]
        refine wpAnyH_take (i := 12) (v := ?_) rfl (by kernel_rfl) (by kernel_rfl) (by kernel_rfl) (fun _ _ _ h => h) (Or.inl ⟨by rfl, ?_⟩) hHeld2 ?_
        rotate_left
        · intro w hSw
          have hSw1 := hSw
          clear hSw
          try dsimp only at hSw1
          go_simp
          try (with_reducible rfl)
        try simp only [Act.put, List.setIfInBounds_toArray, List.set_cons_zero, List.set_cons_succ, List.getElem_toArray, List.getElem_cons_zero, List.getElem_cons_succ]
        refine wpAnyH_take (i := 13) (v := undef) rfl (by kernel_rfl) (by kernel_rfl) (by kernel_rfl) (fun _ _ _ h => h) (Or.inr ⟨by kernel_rfl, rfl⟩) hHeld2 ?_
        try simp only [Act.put, List.setIfInBounds_toArray, List.set_cons_zero, List.set_cons_succ, List.getElem_toArray, List.getElem_cons_zero, List.getElem_cons_succ]
        refine wpAnyH_take (i := 14) (v := undef) rfl (by kernel_rfl) (by kernel_rfl) (by kernel_rfl) (fun _ _ _ h => h) (Or.inr ⟨by kernel_rfl, rfl⟩) hHeld2 ?_
        try simp only [Act.put, List.setIfInBounds_toArray, List.set_cons_zero, List.set_cons_succ, List.getElem_toArray, List.getElem_cons_zero, List.getElem_cons_succ]
        refine wpAnyH_take (i := 15) (v := undef) rfl (by kernel_rfl) (by kernel_rfl) (by kernel_rfl) (fun _ _ _ h => h) (Or.inr ⟨by kernel_rfl, rfl⟩) hHeld2 ?_
        try simp only [Act.put, List.setIfInBounds_toArray, List.set_cons_zero, List.set_cons_succ, List.getElem_toArray, List.getElem_cons_zero, List.getElem_cons_succ]
        refine wpAnyH_take (i := 16) (v := undef) rfl (by kernel_rfl) (by kernel_rfl) (by kernel_rfl) (fun _ _ _ h => h) (Or.inr ⟨by kernel_rfl, rfl⟩) hHeld2 ?_
        try simp only [Act.put, List.setIfInBounds_toArray, List.set_cons_zero, List.set_cons_succ, List.getElem_toArray, List.getElem_cons_zero, List.getElem_cons_succ]
        refine wpAnyH_take (i := 17) (v := undef) rfl (by kernel_rfl) (by kernel_rfl) (by kernel_rfl) (fun _ _ _ h => h) (Or.inr ⟨by kernel_rfl, rfl⟩) hHeld2 ?_
        try simp only [Act.put, List.setIfInBounds_toArray, List.set_cons_zero, List.set_cons_succ, List.getElem_toArray, List.getElem_cons_zero, List.getElem_cons_succ]
        refine wpAnyH_take (i := 18) (v := undef) rfl (by kernel_rfl) (by kernel_rfl) (by kernel_rfl) (fun _ _ _ h => h) (Or.inr ⟨by kernel_rfl, rfl⟩) hHeld2 ?_
        try simp only [Act.put, List.setIfInBounds_toArray, List.set_cons_zero, List.set_cons_succ, List.getElem_toArray, List.getElem_cons_zero, List.getElem_cons_succ]
        refine wpAnyH_take (i := 19) (v := undef) rfl (by kernel_rfl) (by kernel_rfl) (by kernel_rfl) (fun _ _ _ h => h) (Or.inr ⟨by kernel_rfl, rfl⟩) hHeld2 ?_
        try simp only [Act.put, List.setIfInBounds_toArray, List.set_cons_zero, List.set_cons_succ, List.getElem_toArray, List.getElem_cons_zero, List.getElem_cons_succ]
        refine wpAnyH_take (i := 20) (v := undef) rfl (by kernel_rfl) (by kernel_rfl) (by kernel_rfl) (fun _ _ _ h => h) (Or.inr ⟨by kernel_rfl, rfl⟩) hHeld2 ?_
        try simp only [Act.put, List.setIfInBounds_toArray, List.set_cons_zero, List.set_cons_succ, List.getElem_toArray, List.getElem_cons_zero, List.getElem_cons_succ]
        refine wpAnyH_take (i := 21) (v := undef) rfl (by kernel_rfl) (by kernel_rfl) (by kernel_rfl) (fun _ _ _ h => h) (Or.inr ⟨by kernel_rfl, rfl⟩) hHeld2 ?_
        try simp only [Act.put, List.setIfInBounds_toArray, List.set_cons_zero, List.set_cons_succ, List.getElem_toArray, List.getElem_cons_zero, List.getElem_cons_succ]
        refine wpAnyH_take (i := 22) (v := undef) rfl (by kernel_rfl) (by kernel_rfl) (by kernel_rfl) (fun _ _ _ h => h) (Or.inr ⟨by kernel_rfl, rfl⟩) hHeld2 ?_
        try simp only [Act.put, List.setIfInBounds_toArray, List.set_cons_zero, List.set_cons_succ, List.getElem_toArray, List.getElem_cons_zero, List.getElem_cons_succ]
        refine wpAnyH_take (i := 23) (v := undef) rfl (by kernel_rfl) (by kernel_rfl) (by kernel_rfl) (fun _ _ _ h => h) (Or.inr ⟨by kernel_rfl, rfl⟩) hHeld2 ?_
        try simp only [Act.put, List.setIfInBounds_toArray, List.set_cons_zero, List.set_cons_succ, List.getElem_toArray, List.getElem_cons_zero, List.getElem_cons_succ]
        refine wpAnyH_take (i := 24) (v := undef) rfl (by kernel_rfl) (by kernel_rfl) (by kernel_rfl) (fun _ _ _ h => h) (Or.inr ⟨by kernel_rfl, rfl⟩) hHeld2 ?_
        try simp only [Act.put, List.setIfInBounds_toArray, List.set_cons_zero, List.set_cons_succ, List.getElem_toArray, List.getElem_cons_zero, List.getElem_cons_succ]
        refine wpAnyH_take (i := 25) (v := ?_) rfl (by kernel_rfl) (by kernel_rfl) (by kernel_rfl) (fun _ _ _ h => h) (Or.inl ⟨by rfl, ?_⟩) hHeld2 ?_
        rotate_left
        · intro w hSw
          have hSw1 := hSw
          clear hSw
          try dsimp only at hSw1
          go_simp
          try (with_reducible rfl)
        try simp only [Act.put, List.setIfInBounds_toArray, List.set_cons_zero, List.set_cons_succ, List.getElem_toArray, List.getElem_cons_zero, List.getElem_cons_succ]
        refine wpAnyH_take (i := 26) (v := ?_) rfl (by kernel_rfl) (by kernel_rfl) (by kernel_rfl) (fun _ _ _ h => h) (Or.inl ⟨by rfl, ?_⟩) hHeld2 ?_
        rotate_left
        · intro w hSw
          have hSw1 := hSw
          clear hSw
          try dsimp only at hSw1
          go_simp
          try (with_reducible rfl)
        try simp only [Act.put, List.setIfInBounds_toArray, List.set_cons_zero, List.set_cons_succ, List.getElem_toArray, List.getElem_cons_zero, List.getElem_cons_succ]
        refine wpAnyH_done (by kernel_rfl) ?_ _
        have K2 : Hid (Blk w2 b 29 #[.int .i64 c.base.count, Str c.base.hash, .slice a c.ls.length cap] ∧ Blk w2 (b + 1) 32 (lnc x).toArray ∧ Blk w2 (b + 1 + 1) 29 #[.int .i64 0, Str [], .slice none 0 0] ∧ Row w2 8 a c.ls.length cap (lncs c.ls) ∧ Step [] [] w w2) := ⟨H1.out.1.drew.step H2.out (by simp), H1.out.2.1.drew.step H2.out (by simp), H1.out.2.2.1.drew.step H2.out (by simp), H1.out.2.2.2.1.drew.step H2.out (by simp), H1.out.2.2.2.2.1.drew.trans H2.out⟩
        have HBW := Lib.hid H1.out.2.2.2.2.2
        clear H1 H2 hmd hld
        have bl := K2.out.2.1.ln
        have ll := K2.out.2.1.lt
        go_wp2_with fail
        refine (refNext_any q.count q.hash x w2 (by have := HQ.out.1; omega) (by have := HQ.out.1; omega) HC.out.2.1 HQ.out.2.1).mono ?_
        rintro e w6 ⟨rfl, k6⟩
        have K6 : Hid (Blk w6 b 29 #[.int .i64 c.base.count, Str c.base.hash, .slice a c.ls.length cap] ∧ Blk w6 (b + 1) 32 (lnc x).toArray ∧ Blk w6 (b + 1 + 1) 29 #[.int .i64 0, Str [], .slice none 0 0] ∧ Row w6 8 a c.ls.length cap (lncs c.ls) ∧ Step [] [] w w6) := ⟨K2.out.1.step k6 (by simp), K2.out.2.1.step k6 (by simp), K2.out.2.2.1.step k6 (by simp), K2.out.2.2.2.1.step k6 (by simp), K2.out.2.2.2.2.trans k6⟩
        clear k6 K2 bl ll
        have bl := K6.out.2.1.ln
        have ll := K6.out.2.1.lt
        have f7 := K6.out.2.1.frozen 7
        go_upto_region 5 with fail
        obtain ⟨x1, hx1⟩ : ∃ x1 : Ln, x1 = { x with hash := nextL q.count q.hash x } := ⟨_, rfl⟩
        obtain ⟨W7, hW7⟩ : ∃ W7, W7 = w6.setCell ⟨b + 1, 7, none⟩ (Str (nextL q.count q.hash x)) := ⟨_, rfl⟩
        rw [← hW7]
        have K7 : Hid (Blk W7 b 29 #[.int .i64 c.base.count, Str c.base.hash, .slice a c.ls.length cap] ∧ Blk W7 (b + 1) 32 (lnc x1).toArray ∧ Blk W7 (b + 1 + 1) 29 #[.int .i64 0, Str [], .slice none 0 0] ∧ Row W7 8 a c.ls.length cap (lncs c.ls) ∧ Step [] [] w W7) := by
          have st : Step [b + 1] [b + 1] w6 W7 := by rw [hW7]; exact (Step.refl _ w6).setCell (.inl (by simp)) _
          have hbw := HBW.out
          refine ⟨K6.out.1.step st (by simp), ?_, K6.out.2.2.1.step st (by simp), K6.out.2.2.2.1.step st (fun g hg e => ?_), ?_⟩
          · rw [hW7, hx1]; exact K6.out.2.1.set 7 (Str (nextL q.count q.hash x))
          · have := HR.out.2.1.lt g hg
            simp at e
            omega
          · rw [hW7]; exact K6.out.2.2.2.2.setCell (.inr (by simp; omega)) _
        have HX1 : Hid (x1 = addedL c x) := by show _ = _; rw [hx1, HQ.out.2.2]; rfl
        clear hW7 K6 bl ll f7 hx1
        have hp := K7.out.1.lt
        have c2 := K7.out.1.cell 2
        have f2 := K7.out.1.frozen 2
        simp only [List.getElem?_toArray, List.getElem?_cons_zero, List.getElem?_cons_succ] at c2
        obtain ⟨i0, hi, hz0, hz1, hz2⟩ := info_parts Try.info_line
        have HI := Lib.hid (And.intro hi (And.intro hz0 (And.intro hz1 hz2)))
        clear hi hz0 hz1 hz2
        have HNB : Hid (b < W7.heap.size ∧ b + 1 < W7.heap.size ∧ b + 1 + 1 < W7.heap.size) := ⟨K7.out.1.lt, K7.out.2.1.lt, K7.out.2.2.1.lt⟩
        have HSZ := Lib.hid K7.out.2.2.2.2.size
        have hllb := HC.out.1.len
        refine wp_region_held_drew (S := fun V => Hid (Blk V (b + 1) 32 (lnc x1).toArray)) (by kernel_rfl) (Lib.hid K7.out.2.1.drew) (fun hHeld => ?_)
        refine wpAnyH_take (i := 1) (v := ?_) rfl (by kernel_rfl) (by kernel_rfl) (by kernel_rfl) (fun _ _ _ h => h) (Or.inl ⟨by rfl, ?_⟩) hHeld ?_
        rotate_left
        · intro w hSw
          have hSw1 := hSw
          clear hSw
          try dsimp only at hSw1
          go_simp
          try (with_reducible rfl)
        try simp only [Act.put, List.setIfInBounds_toArray, List.set_cons_zero, List.set_cons_succ, List.getElem_toArray, List.getElem_cons_zero, List.getElem_cons_succ]
        refine wpAnyH_take (i := 4) (v := ?_) rfl (by kernel_rfl) (by kernel_rfl) (by kernel_rfl) (fun _ _ _ h => h) (Or.inl ⟨by rfl, ?_⟩) hHeld ?_
        rotate_left
        · intro w hSw
          have hSw1 := hSw
          clear hSw
          have hc := hSw1.out.ln
          have hlt := hSw1.out.lt
          go_simp
          try (with_reducible rfl)
        try simp only [Act.put, List.setIfInBounds_toArray, List.set_cons_zero, List.set_cons_succ, List.getElem_toArray, List.getElem_cons_zero, List.getElem_cons_succ]
        refine wpAnyH_ready (rs := [0, 2, 5]) (by kernel_rfl) (by simp) ?_
        refine AllReadyH.cons rfl (fun K hK => ?_) (AllReadyH.cons rfl (fun K hK => ?_) (AllReadyH.cons rfl (fun K hK => ?_) (AllReadyH.nil)))
        · skip
          go_simp
          skip
          go_wp2_with fail
          refine hK.out _ _ (Lib.hid (hHeld.out.alloc _)) (fun hHeld2 => ?_)
          clear hK K hHeld
          try simp only [Act.put, List.setIfInBounds_toArray, List.set_cons_zero, List.set_cons_succ, List.getElem_toArray, List.getElem_cons_zero, List.getElem_cons_succ]
          refine wpAnyH_ready (rs := [2, 5]) (by kernel_rfl) (by simp) ?_
          refine AllReadyH.cons rfl (fun K hK => ?_) (AllReadyH.cons rfl (fun K hK => ?_) (AllReadyH.nil))
          · skip
            go_simp
            skip
            go_wp2_with fail
            refine hK.out _ _ (hHeld2) (fun hHeld3 => ?_)
            clear hK K hHeld2
            try simp only [Act.put, List.setIfInBounds_toArray, List.set_cons_zero, List.set_cons_succ, List.getElem_toArray, List.getElem_cons_zero, List.getElem_cons_succ]
            refine wpAnyH_ready (rs := [3, 5]) (by kernel_rfl) (by simp) ?_
            refine AllReadyH.cons rfl (fun K hK => ?_) (AllReadyH.cons rfl (fun K hK => ?_) (AllReadyH.nil))
            · skip
              have hE : Row ((W7.drew).alloc (.cells #[] 32)) 8 (some ⟨W7.heap.size, 0, none⟩) 0 0 [] := (by have := Row.empty (W7.drew) 32 8; simpa using this); refine step_append_row rfl (.tmp 46) (.tmp 48) 27 27 rfl 32 i0 _ 8 88 Try.underlying27 HI.out.1 HI.out.2.1 HI.out.2.2.1 HI.out.2.2.2 rfl rfl hE rfl (Src.rd 27 32 Try.underlying27 ((K7.out.2.2.2.1.drew.alloc _).rd) (lncs_one c.ls)) (by unfold maxLen; omega) (by omega) (by omega) ?_; intro a3 cap3 w3 hr3 st3; rw [Nat.zero_add, List.nil_append] at hr3; rw [Nat.zero_add]; have hne : ∀ j, j < W7.heap.size → j ∉ blks (some (⟨W7.heap.size, 0, none⟩ : Addr)) := (by intro j hj; simp [blks]; omega); have M3 : Hid (Row w3 8 a3 c.ls.length cap3 (lncs c.ls) ∧ Blk w3 b 29 #[.int .i64 c.base.count, Str c.base.hash, .slice a c.ls.length cap] ∧ Blk w3 (b + 1 + 1) 29 #[.int .i64 0, Str [], .slice none 0 0] ∧ Row w3 8 a c.ls.length cap (lncs c.ls) ∧ Step [] (blks a3) w w3 ∧ (∀ j, j < W7.heap.size → j ∉ blks a3) ∧ W7.heap.size ≤ w3.heap.size) := ⟨hr3, (K7.out.1.drew.alloc _).step st3 (hne _ HNB.out.1), (K7.out.2.2.1.drew.alloc _).step st3 (hne _ HNB.out.2.2), (K7.out.2.2.2.1.drew.alloc _).step st3 (fun j hj => hne _ (by have := K7.out.2.2.2.1.lt j hj; exact this)), (step_new ((K7.out.2.2.2.2.drew.alloc _)) st3 (by have := HSZ.out; simp [blks]; omega)), fun j hj => st3.notin (by simp; omega) (hne j hj), by have := st3.size; simp at this; omega⟩; have p3 := M3.out.2.1.lt; have c3 := M3.out.2.1.cell 2; have f3 := M3.out.2.1.frozen 2; have KEEP3 := Lib.hid (hHeld3.out.step st3 (hne _ HNB.out.2.1)); clear hr3 st3 hne hE; simp only [List.getElem?_toArray, List.getElem?_cons_zero, List.getElem?_cons_succ] at c3
              refine hK.out _ _ (KEEP3) (fun hHeld4 => ?_)
              clear hK K hHeld3
              try simp only [Act.put, List.setIfInBounds_toArray, List.set_cons_zero, List.set_cons_succ, List.getElem_toArray, List.getElem_cons_zero, List.getElem_cons_succ]
              refine wpAnyH_ready (rs := [5]) (by kernel_rfl) (by simp) ?_
              refine AllReadyH.cons rfl (fun K hK => ?_) AllReadyH.nil
              go_simp
              skip
              go_wp2_with fail
              refine hK.out _ _ (Lib.hid (hHeld4.out.alloc _)) (fun hHeld5 => ?_)
              clear hK K hHeld4
              try simp only [Act.put, List.setIfInBounds_toArray, List.set_cons_zero, List.set_cons_succ, List.getElem_toArray, List.getElem_cons_zero, List.getElem_cons_succ]
              refine wpAnyH_ready (rs := [6]) (by kernel_rfl) (by simp) ?_
              refine AllReadyH.cons rfl (fun K hK => ?_) AllReadyH.nil
              refine step_append_row rfl (.tmp 49) (.tmp 51) 27 27 rfl 32 i0 _ 8 88 Try.underlying27 HI.out.1 HI.out.2.1 HI.out.2.2.1 HI.out.2.2.2 rfl rfl (M3.out.1.alloc _) rfl (Src.rd 27 32 Try.underlying27 (rd_blk (Blk.new (w3) 32 (lnc x1).toArray) 8 1 rfl) (lnc_one x1)) (by unfold maxLen; omega) (by omega) (by omega) ?_; intro a9 cap9 w9 hr9 st9; have M9 : Hid (Row w9 8 a9 (c.ls.length + 1) cap9 (lncs c.ls ++ lnc x1) ∧ Blk w9 b 29 #[.int .i64 c.base.count, Str c.base.hash, .slice a c.ls.length cap] ∧ Blk w9 (b + 1 + 1) 29 #[.int .i64 0, Str [], .slice none 0 0] ∧ Step [] (blks a9) w w9 ∧ (∀ j, j < W7.heap.size → j ∉ blks a9)) := ⟨hr9, (M3.out.2.1.alloc _).step st9 (M3.out.2.2.2.2.2.1 _ HNB.out.1), (M3.out.2.2.1.alloc _).step st9 (M3.out.2.2.2.2.2.1 _ HNB.out.2.2), (M3.out.2.2.2.2.1.alloc _).trans st9, fun j hj => st9.notin (by have := M3.out.2.2.2.2.2.2; simp; omega) (M3.out.2.2.2.2.2.1 j hj)⟩; have p9 := M9.out.2.1.lt; have c9 := M9.out.2.1.cell 2; have f9 := M9.out.2.1.frozen 2; have KEEP9 := Lib.hid (hHeld5.out.step st9 (M3.out.2.2.2.2.2.1 _ HNB.out.2.1)); clear hr9 st9; simp only [List.getElem?_toArray, List.getElem?_cons_zero, List.getElem?_cons_succ] at c9
              refine hK.out _ _ (KEEP9) (fun hHeld6 => ?_)
              clear hK K hHeld5
              try simp only [Act.put, List.setIfInBounds_toArray, List.set_cons_zero, List.set_cons_succ, List.getElem_toArray, List.getElem_cons_zero, List.getElem_cons_succ]
              refine wpAnyH_take (i := 7) (v := ?_) rfl (by kernel_rfl) (by kernel_rfl) (by kernel_rfl) (fun _ _ _ h => h) (Or.inl ⟨by rfl, ?_⟩) hHeld6 ?_
              rotate_left
              · intro w hSw
                have hSw1 := hSw
                clear hSw
                try dsimp only at hSw1
                go_simp
                try (with_reducible rfl)
              try simp only [Act.put, List.setIfInBounds_toArray, List.set_cons_zero, List.set_cons_succ, List.getElem_toArray, List.getElem_cons_zero, List.getElem_cons_succ]
              refine wpAnyH_ready (rs := [8]) (by kernel_rfl) (by simp) ?_
              refine AllReadyH.cons rfl (fun K hK => ?_) AllReadyH.nil
              go_simp
              skip
              go_wp2_with fail
              refine hK.out _ _ (Lib.hid (hHeld6.out.far (by simp) _)) (fun hHeld7 => ?_)
              clear hK K hHeld6
              try simp only [Act.put, List.setIfInBounds_toArray, List.set_cons_zero, List.set_cons_succ, List.getElem_toArray, List.getElem_cons_zero, List.getElem_cons_succ]
              refine wpAnyH_done (by kernel_rfl) ?_ _
              obtain ⟨W9, hW9⟩ : ∃ W9, W9 = w9.setCell ⟨b, 2, none⟩ (.slice a9 (c.ls.length + 1) cap9) := ⟨_, rfl⟩
              rw [← hW9]
              have b0 : Blk W9 b 29 #[.int .i64 c.base.count, Str c.base.hash, .slice a9 (c.ls.length + 1) cap9] := by rw [hW9]; simpa using M9.out.2.1.set 2 (.slice a9 (c.ls.length + 1) cap9)
              have z0 : Blk W9 (b + 1 + 1) 29 #[.int .i64 0, Str [], .slice none 0 0] := by rw [hW9]; exact M9.out.2.2.1.far (by simp; omega) _
              have st9 : Step [b] [b] w9 W9 := by rw [hW9]; exact (Step.refl _ w9).setCell (.inl (by simp)) _
              have r0 := M9.out.1.step st9 (fun g hg e => by simp at e; subst e; exact M9.out.2.2.2.2 _ HNB.out.1 hg)
              have HSW : Hid (Step [] [] w W9) := by rw [hW9]; exact (M9.out.2.2.2.1.setCell (.inr (by rw [HBW.out]; exact Nat.le_refl _)) _).drop (by simp)
              clear hW9 st9 hp c2 f2 p3 c3 f3 p9 c9 f9
              have K0 := Lib.hid (And.intro b0 (And.intro z0 (And.intro r0 HSW.out)))
              have e0 := K0.out.1.cell 0
              have e1 := K0.out.1.cell 1
              have e2 := K0.out.1.cell 2
              have e3 := K0.out.1.lt
              have z1 := K0.out.2.1.lt
              have zf0 := K0.out.2.1.frozen 0
              have zf1 := K0.out.2.1.frozen 1
              have zf2 := K0.out.2.1.frozen 2
              have zc0 := K0.out.2.1.cell 0
              have zc1 := K0.out.2.1.cell 1
              have zc2 := K0.out.2.1.cell 2
              simp only [List.getElem?_toArray, List.getElem?_cons_zero, List.getElem?_cons_succ] at e0 e1 e2 zc0 zc1 zc2
              clear b0 z0 r0
              go_wp2_with fail
              have P3 := Blk.put3 K0.out.2.1 (.int .i64 c.base.count) (Str c.base.hash) (.slice a9 (c.ls.length + 1) cap9)
              have SS : Step [b + 1 + 1] [b + 1 + 1] W9 (((W9.setCell ⟨b + 1 + 1, 0, none⟩ (.int .i64 c.base.count)).setCell ⟨b + 1 + 1, 1, none⟩ (Str c.base.hash)).setCell ⟨b + 1 + 1, 2, none⟩ (.slice a9 (c.ls.length + 1) cap9)) := (((Step.refl _ W9).setCell (.inl (by simp)) _).setCell (.inl (by simp)) _).setCell (.inl (by simp)) _
              have SW : Step [] [] w (((W9.setCell ⟨b + 1 + 1, 0, none⟩ (.int .i64 c.base.count)).setCell ⟨b + 1 + 1, 1, none⟩ (Str c.base.hash)).setCell ⟨b + 1 + 1, 2, none⟩ (.slice a9 (c.ls.length + 1) cap9)) := by
                have hbw := HBW.out
                exact ((K0.out.2.2.2.setCell (.inr (by simp; omega)) _).setCell (.inr (by simp; omega)) _).setCell (.inr (by simp; omega)) _
              refine bodyPost_ret (v := .tuple #[.agg #[.int .i64 c.base.count, Str c.base.hash, .slice a9 (c.ls.length + 1) cap9], .bool true]) ?_ rfl ⟨a9, cap9, ?_, ?_, SW, ?_⟩
              · simp [results, Try.results11, go_sem, P3]
              · rw [hYES.out, addL, if_pos hYES.out]; simp
              · rw [addL, if_pos hYES.out]
                have := K0.out.2.2.1.step SS (fun g hg e => by simp at e; subst e; exact M9.out.2.2.2.2 _ HNB.out.2.2 hg)
                rw [HX1.out] at this
                simpa [lncs] using this
              · intro g hg
                rcases M9.out.2.2.2.1.fresh g hg with h9 | h9
                · simp at h9
                · exact .inr h9
            · skip
              go_simp
              skip
              go_wp2_with fail
              refine hK.out _ _ (Lib.hid (hHeld3.out.alloc _)) (fun hHeld4 => ?_)
              clear hK K hHeld3
              try simp only [Act.put, List.setIfInBounds_toArray, List.set_cons_zero, List.set_cons_succ, List.getElem_toArray, List.getElem_cons_zero, List.getElem_cons_succ]
              refine wpAnyH_ready (rs := [3]) (by kernel_rfl) (by simp) ?_
              refine AllReadyH.cons rfl (fun K hK => ?_) AllReadyH.nil
              have hE : Row (((W7.drew).alloc (.cells #[] 32)).alloc (.cells (lnc x1).toArray 32)) 8 (some ⟨W7.heap.size, 0, none⟩) 0 0 [] := (Row.alloc (by have := Row.empty (W7.drew) 32 8; simpa using this) _); refine step_append_row rfl (.tmp 46) (.tmp 48) 27 27 rfl 32 i0 _ 8 88 Try.underlying27 HI.out.1 HI.out.2.1 HI.out.2.2.1 HI.out.2.2.2 rfl rfl hE rfl (Src.rd 27 32 Try.underlying27 (((K7.out.2.2.2.1.drew.alloc _).alloc _).rd) (lncs_one c.ls)) (by unfold maxLen; omega) (by omega) (by omega) ?_; intro a3 cap3 w3 hr3 st3; rw [Nat.zero_add, List.nil_append] at hr3; rw [Nat.zero_add]; have hne : ∀ j, j < W7.heap.size → j ∉ blks (some (⟨W7.heap.size, 0, none⟩ : Addr)) := (by intro j hj; simp [blks]; omega); have M3 : Hid (Row w3 8 a3 c.ls.length cap3 (lncs c.ls) ∧ Blk w3 b 29 #[.int .i64 c.base.count, Str c.base.hash, .slice a c.ls.length cap] ∧ Blk w3 (b + 1 + 1) 29 #[.int .i64 0, Str [], .slice none 0 0] ∧ Row w3 8 a c.ls.length cap (lncs c.ls) ∧ Step [] (blks a3) w w3 ∧ (∀ j, j < W7.heap.size → j ∉ blks a3) ∧ W7.heap.size ≤ w3.heap.size) := ⟨hr3, ((K7.out.1.drew.alloc _).alloc _).step st3 (hne _ HNB.out.1), ((K7.out.2.2.1.drew.alloc _).alloc _).step st3 (hne _ HNB.out.2.2), ((K7.out.2.2.2.1.drew.alloc _).alloc _).step st3 (fun j hj => hne _ (by have := K7.out.2.2.2.1.lt j hj; exact this)), (step_new (((K7.out.2.2.2.2.drew.alloc _).alloc _)) st3 (by have := HSZ.out; simp [blks]; omega)), fun j hj => st3.notin (by simp; omega) (hne j hj), by have := st3.size; simp at this; omega⟩; have hL : Blk (((W7.drew).alloc (.cells #[] 32)).alloc (.cells (lnc x1).toArray 32)) (W7.heap.size + 1) 32 (lnc x1).toArray := (by have := (Blk.new ((W7.drew).alloc (.cells #[] 32)) 32 (lnc x1).toArray); simpa using this); have ML := Lib.hid (hL.step st3 (by simp [blks])); clear hL; have p3 := M3.out.2.1.lt; have c3 := M3.out.2.1.cell 2; have f3 := M3.out.2.1.frozen 2; have KEEP3 := Lib.hid (hHeld4.out.step st3 (hne _ HNB.out.2.1)); clear hr3 st3 hne hE; simp only [List.getElem?_toArray, List.getElem?_cons_zero, List.getElem?_cons_succ] at c3
              refine hK.out _ _ (KEEP3) (fun hHeld5 => ?_)
              clear hK K hHeld4
              try simp only [Act.put, List.setIfInBounds_toArray, List.set_cons_zero, List.set_cons_succ, List.getElem_toArray, List.getElem_cons_zero, List.getElem_cons_succ]
              refine wpAnyH_ready (rs := [6]) (by kernel_rfl) (by simp) ?_
              refine AllReadyH.cons rfl (fun K hK => ?_) AllReadyH.nil
              refine step_append_row rfl (.tmp 49) (.tmp 51) 27 27 rfl 32 i0 _ 8 88 Try.underlying27 HI.out.1 HI.out.2.1 HI.out.2.2.1 HI.out.2.2.2 rfl rfl M3.out.1 rfl (Src.rd 27 32 Try.underlying27 (rd_blk ML.out 8 1 rfl) (lnc_one x1)) (by unfold maxLen; omega) (by omega) (by omega) ?_; intro a9 cap9 w9 hr9 st9; have M9 : Hid (Row w9 8 a9 (c.ls.length + 1) cap9 (lncs c.ls ++ lnc x1) ∧ Blk w9 b 29 #[.int .i64 c.base.count, Str c.base.hash, .slice a c.ls.length cap] ∧ Blk w9 (b + 1 + 1) 29 #[.int .i64 0, Str [], .slice none 0 0] ∧ Step [] (blks a9) w w9 ∧ (∀ j, j < W7.heap.size → j ∉ blks a9)) := ⟨hr9, M3.out.2.1.step st9 (M3.out.2.2.2.2.2.1 _ HNB.out.1), M3.out.2.2.1.step st9 (M3.out.2.2.2.2.2.1 _ HNB.out.2.2), M3.out.2.2.2.2.1.trans st9, fun j hj => st9.notin (by have := M3.out.2.2.2.2.2.2; simp; omega) (M3.out.2.2.2.2.2.1 j hj)⟩; have p9 := M9.out.2.1.lt; have c9 := M9.out.2.1.cell 2; have f9 := M9.out.2.1.frozen 2; have KEEP9 := Lib.hid (hHeld5.out.step st9 (M3.out.2.2.2.2.2.1 _ HNB.out.2.1)); clear hr9 st9; simp only [List.getElem?_toArray, List.getElem?_cons_zero, List.getElem?_cons_succ] at c9
              refine hK.out _ _ (KEEP9) (fun hHeld6 => ?_)
              clear hK K hHeld5
              try simp only [Act.put, List.setIfInBounds_toArray, List.set_cons_zero, List.set_cons_succ, List.getElem_toArray, List.getElem_cons_zero, List.getElem_cons_succ]
              refine wpAnyH_take (i := 7) (v := ?_) rfl (by kernel_rfl) (by kernel_rfl) (by kernel_rfl) (fun _ _ _ h => h) (Or.inl ⟨by rfl, ?_⟩) hHeld6 ?_
              rotate_left
              · intro w hSw
                have hSw1 := hSw
                clear hSw
                try dsimp only at hSw1
                go_simp
                try (with_reducible rfl)
              try simp only [Act.put, List.setIfInBounds_toArray, List.set_cons_zero, List.set_cons_succ, List.getElem_toArray, List.getElem_cons_zero, List.getElem_cons_succ]
              refine wpAnyH_ready (rs := [8]) (by kernel_rfl) (by simp) ?_
              refine AllReadyH.cons rfl (fun K hK => ?_) AllReadyH.nil
              go_simp
              skip
              go_wp2_with fail
              refine hK.out _ _ (Lib.hid (hHeld6.out.far (by simp) _)) (fun hHeld7 => ?_)
              clear hK K hHeld6
              try simp only [Act.put, List.setIfInBounds_toArray, List.set_cons_zero, List.set_cons_succ, List.getElem_toArray, List.getElem_cons_zero, List.getElem_cons_succ]
              refine wpAnyH_done (by kernel_rfl) ?_ _
              obtain ⟨W9, hW9⟩ : ∃ W9, W9 = w9.setCell ⟨b, 2, none⟩ (.slice a9 (c.ls.length + 1) cap9) := ⟨_, rfl⟩
              rw [← hW9]
              have b0 : Blk W9 b 29 #[.int .i64 c.base.count, Str c.base.hash, .slice a9 (c.ls.length + 1) cap9] := by rw [hW9]; simpa using M9.out.2.1.set 2 (.slice a9 (c.ls.length + 1) cap9)
              have z0 : Blk W9 (b + 1 + 1) 29 #[.int .i64 0, Str [], .slice none 0 0] := by rw [hW9]; exact M9.out.2.2.1.far (by simp; omega) _
              have st9 : Step [b] [b] w9 W9 := by rw [hW9]; exact (Step.refl _ w9).setCell (.inl (by simp)) _
              have r0 := M9.out.1.step st9 (fun g hg e => by simp at e; subst e; exact M9.out.2.2.2.2 _ HNB.out.1 hg)
              have HSW : Hid (Step [] [] w W9) := by rw [hW9]; exact (M9.out.2.2.2.1.setCell (.inr (by rw [HBW.out]; exact Nat.le_refl _)) _).drop (by simp)
              clear hW9 st9 hp c2 f2 p3 c3 f3 p9 c9 f9
              have K0 := Lib.hid (And.intro b0 (And.intro z0 (And.intro r0 HSW.out)))
              have e0 := K0.out.1.cell 0
              have e1 := K0.out.1.cell 1
              have e2 := K0.out.1.cell 2
              have e3 := K0.out.1.lt
              have z1 := K0.out.2.1.lt
              have zf0 := K0.out.2.1.frozen 0
              have zf1 := K0.out.2.1.frozen 1
              have zf2 := K0.out.2.1.frozen 2
              have zc0 := K0.out.2.1.cell 0
              have zc1 := K0.out.2.1.cell 1
              have zc2 := K0.out.2.1.cell 2
              simp only [List.getElem?_toArray, List.getElem?_cons_zero, List.getElem?_cons_succ] at e0 e1 e2 zc0 zc1 zc2
              clear b0 z0 r0
              go_wp2_with fail
              have P3 := Blk.put3 K0.out.2.1 (.int .i64 c.base.count) (Str c.base.hash) (.slice a9 (c.ls.length + 1) cap9)
              have SS : Step [b + 1 + 1] [b + 1 + 1] W9 (((W9.setCell ⟨b + 1 + 1, 0, none⟩ (.int .i64 c.base.count)).setCell ⟨b + 1 + 1, 1, none⟩ (Str c.base.hash)).setCell ⟨b + 1 + 1, 2, none⟩ (.slice a9 (c.ls.length + 1) cap9)) := (((Step.refl _ W9).setCell (.inl (by simp)) _).setCell (.inl (by simp)) _).setCell (.inl (by simp)) _
              have SW : Step [] [] w (((W9.setCell ⟨b + 1 + 1, 0, none⟩ (.int .i64 c.base.count)).setCell ⟨b + 1 + 1, 1, none⟩ (Str c.base.hash)).setCell ⟨b + 1 + 1, 2, none⟩ (.slice a9 (c.ls.length + 1) cap9)) := by
                have hbw := HBW.out
                exact ((K0.out.2.2.2.setCell (.inr (by simp; omega)) _).setCell (.inr (by simp; omega)) _).setCell (.inr (by simp; omega)) _
              refine bodyPost_ret (v := .tuple #[.agg #[.int .i64 c.base.count, Str c.base.hash, .slice a9 (c.ls.length + 1) cap9], .bool true]) ?_ rfl ⟨a9, cap9, ?_, ?_, SW, ?_⟩
              · simp [results, Try.results11, go_sem, P3]
              · rw [hYES.out, addL, if_pos hYES.out]; simp
              · rw [addL, if_pos hYES.out]
                have := K0.out.2.2.1.step SS (fun g hg e => by simp at e; subst e; exact M9.out.2.2.2.2 _ HNB.out.2.2 hg)
                rw [HX1.out] at this
                simpa [lncs] using this
              · intro g hg
                rcases M9.out.2.2.2.1.fresh g hg with h9 | h9
                · simp at h9
                · exact .inr h9
          · skip
            go_simp
            skip
            go_wp2_with fail
            refine hK.out _ _ (Lib.hid (hHeld2.out.alloc _)) (fun hHeld3 => ?_)
            clear hK K hHeld2
            try simp only [Act.put, List.setIfInBounds_toArray, List.set_cons_zero, List.set_cons_succ, List.getElem_toArray, List.getElem_cons_zero, List.getElem_cons_succ]
            refine wpAnyH_ready (rs := [2]) (by kernel_rfl) (by simp) ?_
            refine AllReadyH.cons rfl (fun K hK => ?_) AllReadyH.nil
            go_simp
            skip
            go_wp2_with fail
            refine hK.out _ _ (hHeld3) (fun hHeld4 => ?_)
            clear hK K hHeld3
            try simp only [Act.put, List.setIfInBounds_toArray, List.set_cons_zero, List.set_cons_succ, List.getElem_toArray, List.getElem_cons_zero, List.getElem_cons_succ]
            refine wpAnyH_ready (rs := [3]) (by kernel_rfl) (by simp) ?_
            refine AllReadyH.cons rfl (fun K hK => ?_) AllReadyH.nil
            have hE : Row (((W7.drew).alloc (.cells #[] 32)).alloc (.cells (lnc x1).toArray 32)) 8 (some ⟨W7.heap.size, 0, none⟩) 0 0 [] := (Row.alloc (by have := Row.empty (W7.drew) 32 8; simpa using this) _); refine step_append_row rfl (.tmp 46) (.tmp 48) 27 27 rfl 32 i0 _ 8 88 Try.underlying27 HI.out.1 HI.out.2.1 HI.out.2.2.1 HI.out.2.2.2 rfl rfl hE rfl (Src.rd 27 32 Try.underlying27 (((K7.out.2.2.2.1.drew.alloc _).alloc _).rd) (lncs_one c.ls)) (by unfold maxLen; omega) (by omega) (by omega) ?_; intro a3 cap3 w3 hr3 st3; rw [Nat.zero_add, List.nil_append] at hr3; rw [Nat.zero_add]; have hne : ∀ j, j < W7.heap.size → j ∉ blks (some (⟨W7.heap.size, 0, none⟩ : Addr)) := (by intro j hj; simp [blks]; omega); have M3 : Hid (Row w3 8 a3 c.ls.length cap3 (lncs c.ls) ∧ Blk w3 b 29 #[.int .i64 c.base.count, Str c.base.hash, .slice a c.ls.length cap] ∧ Blk w3 (b + 1 + 1) 29 #[.int .i64 0, Str [], .slice none 0 0] ∧ Row w3 8 a c.ls.length cap (lncs c.ls) ∧ Step [] (blks a3) w w3 ∧ (∀ j, j < W7.heap.size → j ∉ blks a3) ∧ W7.heap.size ≤ w3.heap.size) := ⟨hr3, ((K7.out.1.drew.alloc _).alloc _).step st3 (hne _ HNB.out.1), ((K7.out.2.2.1.drew.alloc _).alloc _).step st3 (hne _ HNB.out.2.2), ((K7.out.2.2.2.1.drew.alloc _).alloc _).step st3 (fun j hj => hne _ (by have := K7.out.2.2.2.1.lt j hj; exact this)), (step_new (((K7.out.2.2.2.2.drew.alloc _).alloc _)) st3 (by have := HSZ.out; simp [blks]; omega)), fun j hj => st3.notin (by simp; omega) (hne j hj), by have := st3.size; simp at this; omega⟩; have hL : Blk (((W7.drew).alloc (.cells #[] 32)).alloc (.cells (lnc x1).toArray 32)) (W7.heap.size + 1) 32 (lnc x1).toArray := (by have := (Blk.new ((W7.drew).alloc (.cells #[] 32)) 32 (lnc x1).toArray); simpa using this); have ML := Lib.hid (hL.step st3 (by simp [blks])); clear hL; have p3 := M3.out.2.1.lt; have c3 := M3.out.2.1.cell 2; have f3 := M3.out.2.1.frozen 2; have KEEP3 := Lib.hid (hHeld4.out.step st3 (hne _ HNB.out.2.1)); clear hr3 st3 hne hE; simp only [List.getElem?_toArray, List.getElem?_cons_zero, List.getElem?_cons_succ] at c3
            refine hK.out _ _ (KEEP3) (fun hHeld5 => ?_)
            clear hK K hHeld4
            try simp only [Act.put, List.setIfInBounds_toArray, List.set_cons_zero, List.set_cons_succ, List.getElem_toArray, List.getElem_cons_zero, List.getElem_cons_succ]
            refine wpAnyH_ready (rs := [6]) (by kernel_rfl) (by simp) ?_
            refine AllReadyH.cons rfl (fun K hK => ?_) AllReadyH.nil
            refine step_append_row rfl (.tmp 49) (.tmp 51) 27 27 rfl 32 i0 _ 8 88 Try.underlying27 HI.out.1 HI.out.2.1 HI.out.2.2.1 HI.out.2.2.2 rfl rfl M3.out.1 rfl (Src.rd 27 32 Try.underlying27 (rd_blk ML.out 8 1 rfl) (lnc_one x1)) (by unfold maxLen; omega) (by omega) (by omega) ?_; intro a9 cap9 w9 hr9 st9; have M9 : Hid (Row w9 8 a9 (c.ls.length + 1) cap9 (lncs c.ls ++ lnc x1) ∧ Blk w9 b 29 #[.int .i64 c.base.count, Str c.base.hash, .slice a c.ls.length cap] ∧ Blk w9 (b + 1 + 1) 29 #[.int .i64 0, Str [], .slice none 0 0] ∧ Step [] (blks a9) w w9 ∧ (∀ j, j < W7.heap.size → j ∉ blks a9)) := ⟨hr9, M3.out.2.1.step st9 (M3.out.2.2.2.2.2.1 _ HNB.out.1), M3.out.2.2.1.step st9 (M3.out.2.2.2.2.2.1 _ HNB.out.2.2), M3.out.2.2.2.2.1.trans st9, fun j hj => st9.notin (by have := M3.out.2.2.2.2.2.2; simp; omega) (M3.out.2.2.2.2.2.1 j hj)⟩; have p9 := M9.out.2.1.lt; have c9 := M9.out.2.1.cell 2; have f9 := M9.out.2.1.frozen 2; have KEEP9 := Lib.hid (hHeld5.out.step st9 (M3.out.2.2.2.2.2.1 _ HNB.out.2.1)); clear hr9 st9; simp only [List.getElem?_toArray, List.getElem?_cons_zero, List.getElem?_cons_succ] at c9
            refine hK.out _ _ (KEEP9) (fun hHeld6 => ?_)
            clear hK K hHeld5
            try simp only [Act.put, List.setIfInBounds_toArray, List.set_cons_zero, List.set_cons_succ, List.getElem_toArray, List.getElem_cons_zero, List.getElem_cons_succ]
            refine wpAnyH_take (i := 7) (v := ?_) rfl (by kernel_rfl) (by kernel_rfl) (by kernel_rfl) (fun _ _ _ h => h) (Or.inl ⟨by rfl, ?_⟩) hHeld6 ?_
            rotate_left
            · intro w hSw
              have hSw1 := hSw
              clear hSw
              try dsimp only at hSw1
              go_simp
              try (with_reducible rfl)
            try simp only [Act.put, List.setIfInBounds_toArray, List.set_cons_zero, List.set_cons_succ, List.getElem_toArray, List.getElem_cons_zero, List.getElem_cons_succ]
            refine wpAnyH_ready (rs := [8]) (by kernel_rfl) (by simp) ?_
            refine AllReadyH.cons rfl (fun K hK => ?_) AllReadyH.nil
            go_simp
            skip
            go_wp2_with fail
            refine hK.out _ _ (Lib.hid (hHeld6.out.far (by simp) _)) (fun hHeld7 => ?_)
            clear hK K hHeld6
            try simp only [Act.put, List.setIfInBounds_toArray, List.set_cons_zero, List.set_cons_succ, List.getElem_toArray, List.getElem_cons_zero, List.getElem_cons_succ]
            refine wpAnyH_done (by kernel_rfl) ?_ _
            obtain ⟨W9, hW9⟩ : ∃ W9, W9 = w9.setCell ⟨b, 2, none⟩ (.slice a9 (c.ls.length + 1) cap9) := ⟨_, rfl⟩
            rw [← hW9]
            have b0 : Blk W9 b 29 #[.int .i64 c.base.count, Str c.base.hash, .slice a9 (c.ls.length + 1) cap9] := by rw [hW9]; simpa using M9.out.2.1.set 2 (.slice a9 (c.ls.length + 1) cap9)
            have z0 : Blk W9 (b + 1 + 1) 29 #[.int .i64 0, Str [], .slice none 0 0] := by rw [hW9]; exact M9.out.2.2.1.far (by simp; omega) _
            have st9 : Step [b] [b] w9 W9 := by rw [hW9]; exact (Step.refl _ w9).setCell (.inl (by simp)) _
            have r0 := M9.out.1.step st9 (fun g hg e => by simp at e; subst e; exact M9.out.2.2.2.2 _ HNB.out.1 hg)
            have HSW : Hid (Step [] [] w W9) := by rw [hW9]; exact (M9.out.2.2.2.1.setCell (.inr (by rw [HBW.out]; exact Nat.le_refl _)) _).drop (by simp)
            clear hW9 st9 hp c2 f2 p3 c3 f3 p9 c9 f9
            have K0 := Lib.hid (And.intro b0 (And.intro z0 (And.intro r0 HSW.out)))
            have e0 := K0.out.1.cell 0
            have e1 := K0.out.1.cell 1
            have e2 := K0.out.1.cell 2
            have e3 := K0.out.1.lt
            have z1 := K0.out.2.1.lt
            have zf0 := K0.out.2.1.frozen 0
            have zf1 := K0.out.2.1.frozen 1
            have zf2 := K0.out.2.1.frozen 2
            have zc0 := K0.out.2.1.cell 0
            have zc1 := K0.out.2.1.cell 1
            have zc2 := K0.out.2.1.cell 2
            simp only [List.getElem?_toArray, List.getElem?_cons_zero, List.getElem?_cons_succ] at e0 e1 e2 zc0 zc1 zc2
            clear b0 z0 r0
            go_wp2_with fail
            have P3 := Blk.put3 K0.out.2.1 (.int .i64 c.base.count) (Str c.base.hash) (.slice a9 (c.ls.length + 1) cap9)
            have SS : Step [b + 1 + 1] [b + 1 + 1] W9 (((W9.setCell ⟨b + 1 + 1, 0, none⟩ (.int .i64 c.base.count)).setCell ⟨b + 1 + 1, 1, none⟩ (Str c.base.hash)).setCell ⟨b + 1 + 1, 2, none⟩ (.slice a9 (c.ls.length + 1) cap9)) := (((Step.refl _ W9).setCell (.inl (by simp)) _).setCell (.inl (by simp)) _).setCell (.inl (by simp)) _
            have SW : Step [] [] w (((W9.setCell ⟨b + 1 + 1, 0, none⟩ (.int .i64 c.base.count)).setCell ⟨b + 1 + 1, 1, none⟩ (Str c.base.hash)).setCell ⟨b + 1 + 1, 2, none⟩ (.slice a9 (c.ls.length + 1) cap9)) := by
              have hbw := HBW.out
              exact ((K0.out.2.2.2.setCell (.inr (by simp; omega)) _).setCell (.inr (by simp; omega)) _).setCell (.inr (by simp; omega)) _
            refine bodyPost_ret (v := .tuple #[.agg #[.int .i64 c.base.count, Str c.base.hash, .slice a9 (c.ls.length + 1) cap9], .bool true]) ?_ rfl ⟨a9, cap9, ?_, ?_, SW, ?_⟩
            · simp [results, Try.results11, go_sem, P3]
            · rw [hYES.out, addL, if_pos hYES.out]; simp
            · rw [addL, if_pos hYES.out]
              have := K0.out.2.2.1.step SS (fun g hg e => by simp at e; subst e; exact M9.out.2.2.2.2 _ HNB.out.2.2 hg)
              rw [HX1.out] at this
              simpa [lncs] using this
            · intro g hg
              rcases M9.out.2.2.2.1.fresh g hg with h9 | h9
              · simp at h9
              · exact .inr h9
        · skip
          go_simp
          skip
          go_wp2_with fail
          refine hK.out _ _ (hHeld) (fun hHeld2 => ?_)
          clear hK K hHeld
          try simp only [Act.put, List.setIfInBounds_toArray, List.set_cons_zero, List.set_cons_succ, List.getElem_toArray, List.getElem_cons_zero, List.getElem_cons_succ]
          refine wpAnyH_ready (rs := [0, 5]) (by kernel_rfl) (by simp) ?_
          refine AllReadyH.cons rfl (fun K hK => ?_) (AllReadyH.cons rfl (fun K hK => ?_) (AllReadyH.nil))
          · skip
            go_simp
            skip
            go_wp2_with fail
            refine hK.out _ _ (Lib.hid (hHeld2.out.alloc _)) (fun hHeld3 => ?_)
            clear hK K hHeld2
            try simp only [Act.put, List.setIfInBounds_toArray, List.set_cons_zero, List.set_cons_succ, List.getElem_toArray, List.getElem_cons_zero, List.getElem_cons_succ]
            refine wpAnyH_ready (rs := [3, 5]) (by kernel_rfl) (by simp) ?_
            refine AllReadyH.cons rfl (fun K hK => ?_) (AllReadyH.cons rfl (fun K hK => ?_) (AllReadyH.nil))
            · skip
              have hE : Row ((W7.drew).alloc (.cells #[] 32)) 8 (some ⟨W7.heap.size, 0, none⟩) 0 0 [] := (by have := Row.empty (W7.drew) 32 8; simpa using this); refine step_append_row rfl (.tmp 46) (.tmp 48) 27 27 rfl 32 i0 _ 8 88 Try.underlying27 HI.out.1 HI.out.2.1 HI.out.2.2.1 HI.out.2.2.2 rfl rfl hE rfl (Src.rd 27 32 Try.underlying27 ((K7.out.2.2.2.1.drew.alloc _).rd) (lncs_one c.ls)) (by unfold maxLen; omega) (by omega) (by omega) ?_; intro a3 cap3 w3 hr3 st3; rw [Nat.zero_add, List.nil_append] at hr3; rw [Nat.zero_add]; have hne : ∀ j, j < W7.heap.size → j ∉ blks (some (⟨W7.heap.size, 0, none⟩ : Addr)) := (by intro j hj; simp [blks]; omega); have M3 : Hid (Row w3 8 a3 c.ls.length cap3 (lncs c.ls) ∧ Blk w3 b 29 #[.int .i64 c.base.count, Str c.base.hash, .slice a c.ls.length cap] ∧ Blk w3 (b + 1 + 1) 29 #[.int .i64 0, Str [], .slice none 0 0] ∧ Row w3 8 a c.ls.length cap (lncs c.ls) ∧ Step [] (blks a3) w w3 ∧ (∀ j, j < W7.heap.size → j ∉ blks a3) ∧ W7.heap.size ≤ w3.heap.size) := ⟨hr3, (K7.out.1.drew.alloc _).step st3 (hne _ HNB.out.1), (K7.out.2.2.1.drew.alloc _).step st3 (hne _ HNB.out.2.2), (K7.out.2.2.2.1.drew.alloc _).step st3 (fun j hj => hne _ (by have := K7.out.2.2.2.1.lt j hj; exact this)), (step_new ((K7.out.2.2.2.2.drew.alloc _)) st3 (by have := HSZ.out; simp [blks]; omega)), fun j hj => st3.notin (by simp; omega) (hne j hj), by have := st3.size; simp at this; omega⟩; have p3 := M3.out.2.1.lt; have c3 := M3.out.2.1.cell 2; have f3 := M3.out.2.1.frozen 2; have KEEP3 := Lib.hid (hHeld3.out.step st3 (hne _ HNB.out.2.1)); clear hr3 st3 hne hE; simp only [List.getElem?_toArray, List.getElem?_cons_zero, List.getElem?_cons_succ] at c3
              refine hK.out _ _ (KEEP3) (fun hHeld4 => ?_)
              clear hK K hHeld3
              try simp only [Act.put, List.setIfInBounds_toArray, List.set_cons_zero, List.set_cons_succ, List.getElem_toArray, List.getElem_cons_zero, List.getElem_cons_succ]
              refine wpAnyH_ready (rs := [5]) (by kernel_rfl) (by simp) ?_
              refine AllReadyH.cons rfl (fun K hK => ?_) AllReadyH.nil
              go_simp
              skip
              go_wp2_with fail
              refine hK.out _ _ (Lib.hid (hHeld4.out.alloc _)) (fun hHeld5 => ?_)
              clear hK K hHeld4
              try simp only [Act.put, List.setIfInBounds_toArray, List.set_cons_zero, List.set_cons_succ, List.getElem_toArray, List.getElem_cons_zero, List.getElem_cons_succ]
              refine wpAnyH_ready (rs := [6]) (by kernel_rfl) (by simp) ?_
              refine AllReadyH.cons rfl (fun K hK => ?_) AllReadyH.nil
              refine step_append_row rfl (.tmp 49) (.tmp 51) 27 27 rfl 32 i0 _ 8 88 Try.underlying27 HI.out.1 HI.out.2.1 HI.out.2.2.1 HI.out.2.2.2 rfl rfl (M3.out.1.alloc _) rfl (Src.rd 27 32 Try.underlying27 (rd_blk (Blk.new (w3) 32 (lnc x1).toArray) 8 1 rfl) (lnc_one x1)) (by unfold maxLen; omega) (by omega) (by omega) ?_; intro a9 cap9 w9 hr9 st9; have M9 : Hid (Row w9 8 a9 (c.ls.length + 1) cap9 (lncs c.ls ++ lnc x1) ∧ Blk w9 b 29 #[.int .i64 c.base.count, Str c.base.hash, .slice a c.ls.length cap] ∧ Blk w9 (b + 1 + 1) 29 #[.int .i64 0, Str [], .slice none 0 0] ∧ Step [] (blks a9) w w9 ∧ (∀ j, j < W7.heap.size → j ∉ blks a9)) := ⟨hr9, (M3.out.2.1.alloc _).step st9 (M3.out.2.2.2.2.2.1 _ HNB.out.1), (M3.out.2.2.1.alloc _).step st9 (M3.out.2.2.2.2.2.1 _ HNB.out.2.2), (M3.out.2.2.2.2.1.alloc _).trans st9, fun j hj => st9.notin (by have := M3.out.2.2.2.2.2.2; simp; omega) (M3.out.2.2.2.2.2.1 j hj)⟩; have p9 := M9.out.2.1.lt; have c9 := M9.out.2.1.cell 2; have f9 := M9.out.2.1.frozen 2; have KEEP9 := Lib.hid (hHeld5.out.step st9 (M3.out.2.2.2.2.2.1 _ HNB.out.2.1)); clear hr9 st9; simp only [List.getElem?_toArray, List.getElem?_cons_zero, List.getElem?_cons_succ] at c9
              refine hK.out _ _ (KEEP9) (fun hHeld6 => ?_)
              clear hK K hHeld5
              try simp only [Act.put, List.setIfInBounds_toArray, List.set_cons_zero, List.set_cons_succ, List.getElem_toArray, List.getElem_cons_zero, List.getElem_cons_succ]
              refine wpAnyH_take (i := 7) (v := ?_) rfl (by kernel_rfl) (by kernel_rfl) (by kernel_rfl) (fun _ _ _ h => h) (Or.inl ⟨by rfl, ?_⟩) hHeld6 ?_
              rotate_left
              · intro w hSw
                have hSw1 := hSw
                clear hSw
                try dsimp only at hSw1
                go_simp
                try (with_reducible rfl)
              try simp only [Act.put, List.setIfInBounds_toArray, List.set_cons_zero, List.set_cons_succ, List.getElem_toArray, List.getElem_cons_zero, List.getElem_cons_succ]
              refine wpAnyH_ready (rs := [8]) (by kernel_rfl) (by simp) ?_
              refine AllReadyH.cons rfl (fun K hK => ?_) AllReadyH.nil
              go_simp
              skip
              go_wp2_with fail
              refine hK.out _ _ (Lib.hid (hHeld6.out.far (by simp) _)) (fun hHeld7 => ?_)
              clear hK K hHeld6
              try simp only [Act.put, List.setIfInBounds_toArray, List.set_cons_zero, List.set_cons_succ, List.getElem_toArray, List.getElem_cons_zero, List.getElem_cons_succ]
              refine wpAnyH_done (by kernel_rfl) ?_ _
              obtain ⟨W9, hW9⟩ : ∃ W9, W9 = w9.setCell ⟨b, 2, none⟩ (.slice a9 (c.ls.length + 1) cap9) := ⟨_, rfl⟩
              rw [← hW9]
              have b0 : Blk W9 b 29 #[.int .i64 c.base.count, Str c.base.hash, .slice a9 (c.ls.length + 1) cap9] := by rw [hW9]; simpa using M9.out.2.1.set 2 (.slice a9 (c.ls.length + 1) cap9)
              have z0 : Blk W9 (b + 1 + 1) 29 #[.int .i64 0, Str [], .slice none 0 0] := by rw [hW9]; exact M9.out.2.2.1.far (by simp; omega) _
              have st9 : Step [b] [b] w9 W9 := by rw [hW9]; exact (Step.refl _ w9).setCell (.inl (by simp)) _
              have r0 := M9.out.1.step st9 (fun g hg e => by simp at e; subst e; exact M9.out.2.2.2.2 _ HNB.out.1 hg)
              have HSW : Hid (Step [] [] w W9) := by rw [hW9]; exact (M9.out.2.2.2.1.setCell (.inr (by rw [HBW.out]; exact Nat.le_refl _)) _).drop (by simp)
              clear hW9 st9 hp c2 f2 p3 c3 f3 p9 c9 f9
              have K0 := Lib.hid (And.intro b0 (And.intro z0 (And.intro r0 HSW.out)))
              have e0 := K0.out.1.cell 0
              have e1 := K0.out.1.cell 1
              have e2 := K0.out.1.cell 2
              have e3 := K0.out.1.lt
              have z1 := K0.out.2.1.lt
              have zf0 := K0.out.2.1.frozen 0
              have zf1 := K0.out.2.1.frozen 1
              have zf2 := K0.out.2.1.frozen 2
              have zc0 := K0.out.2.1.cell 0
              have zc1 := K0.out.2.1.cell 1
              have zc2 := K0.out.2.1.cell 2
              simp only [List.getElem?_toArray, List.getElem?_cons_zero, List.getElem?_cons_succ] at e0 e1 e2 zc0 zc1 zc2
              clear b0 z0 r0
              go_wp2_with fail
              have P3 := Blk.put3 K0.out.2.1 (.int .i64 c.base.count) (Str c.base.hash) (.slice a9 (c.ls.length + 1) cap9)
              have SS : Step [b + 1 + 1] [b + 1 + 1] W9 (((W9.setCell ⟨b + 1 + 1, 0, none⟩ (.int .i64 c.base.count)).setCell ⟨b + 1 + 1, 1, none⟩ (Str c.base.hash)).setCell ⟨b + 1 + 1, 2, none⟩ (.slice a9 (c.ls.length + 1) cap9)) := (((Step.refl _ W9).setCell (.inl (by simp)) _).setCell (.inl (by simp)) _).setCell (.inl (by simp)) _
              have SW : Step [] [] w (((W9.setCell ⟨b + 1 + 1, 0, none⟩ (.int .i64 c.base.count)).setCell ⟨b + 1 + 1, 1, none⟩ (Str c.base.hash)).setCell ⟨b + 1 + 1, 2, none⟩ (.slice a9 (c.ls.length + 1) cap9)) := by
                have hbw := HBW.out
                exact ((K0.out.2.2.2.setCell (.inr (by simp; omega)) _).setCell (.inr (by simp; omega)) _).setCell (.inr (by simp; omega)) _
              refine bodyPost_ret (v := .tuple #[.agg #[.int .i64 c.base.count, Str c.base.hash, .slice a9 (c.ls.length + 1) cap9], .bool true]) ?_ rfl ⟨a9, cap9, ?_, ?_, SW, ?_⟩
              · simp [results, Try.results11, go_sem, P3]
              · rw [hYES.out, addL, if_pos hYES.out]; simp
              · rw [addL, if_pos hYES.out]
                have := K0.out.2.2.1.step SS (fun g hg e => by simp at e; subst e; exact M9.out.2.2.2.2 _ HNB.out.2.2 hg)
                rw [HX1.out] at this
                simpa [lncs] using this
              · intro g hg
                rcases M9.out.2.2.2.1.fresh g hg with h9 | h9
                · simp at h9
                · exact .inr h9
            · skip
              go_simp
              skip
              go_wp2_with fail
              refine hK.out _ _ (Lib.hid (hHeld3.out.alloc _)) (fun hHeld4 => ?_)
              clear hK K hHeld3
              try simp only [Act.put, List.setIfInBounds_toArray, List.set_cons_zero, List.set_cons_succ, List.getElem_toArray, List.getElem_cons_zero, List.getElem_cons_succ]
              refine wpAnyH_ready (rs := [3]) (by kernel_rfl) (by simp) ?_
              refine AllReadyH.cons rfl (fun K hK => ?_) AllReadyH.nil
              have hE : Row (((W7.drew).alloc (.cells #[] 32)).alloc (.cells (lnc x1).toArray 32)) 8 (some ⟨W7.heap.size, 0, none⟩) 0 0 [] := (Row.alloc (by have := Row.empty (W7.drew) 32 8; simpa using this) _); refine step_append_row rfl (.tmp 46) (.tmp 48) 27 27 rfl 32 i0 _ 8 88 Try.underlying27 HI.out.1 HI.out.2.1 HI.out.2.2.1 HI.out.2.2.2 rfl rfl hE rfl (Src.rd 27 32 Try.underlying27 (((K7.out.2.2.2.1.drew.alloc _).alloc _).rd) (lncs_one c.ls)) (by unfold maxLen; omega) (by omega) (by omega) ?_; intro a3 cap3 w3 hr3 st3; rw [Nat.zero_add, List.nil_append] at hr3; rw [Nat.zero_add]; have hne : ∀ j, j < W7.heap.size → j ∉ blks (some (⟨W7.heap.size, 0, none⟩ : Addr)) := (by intro j hj; simp [blks]; omega); have M3 : Hid (Row w3 8 a3 c.ls.length cap3 (lncs c.ls) ∧ Blk w3 b 29 #[.int .i64 c.base.count, Str c.base.hash, .slice a c.ls.length cap] ∧ Blk w3 (b + 1 + 1) 29 #[.int .i64 0, Str [], .slice none 0 0] ∧ Row w3 8 a c.ls.length cap (lncs c.ls) ∧ Step [] (blks a3) w w3 ∧ (∀ j, j < W7.heap.size → j ∉ blks a3) ∧ W7.heap.size ≤ w3.heap.size) := ⟨hr3, ((K7.out.1.drew.alloc _).alloc _).step st3 (hne _ HNB.out.1), ((K7.out.2.2.1.drew.alloc _).alloc _).step st3 (hne _ HNB.out.2.2), ((K7.out.2.2.2.1.drew.alloc _).alloc _).step st3 (fun j hj => hne _ (by have := K7.out.2.2.2.1.lt j hj; exact this)), (step_new (((K7.out.2.2.2.2.drew.alloc _).alloc _)) st3 (by have := HSZ.out; simp [blks]; omega)), fun j hj => st3.notin (by simp; omega) (hne j hj), by have := st3.size; simp at this; omega⟩; have hL : Blk (((W7.drew).alloc (.cells #[] 32)).alloc (.cells (lnc x1).toArray 32)) (W7.heap.size + 1) 32 (lnc x1).toArray := (by have := (Blk.new ((W7.drew).alloc (.cells #[] 32)) 32 (lnc x1).toArray); simpa using this); have ML := Lib.hid (hL.step st3 (by simp [blks])); clear hL; have p3 := M3.out.2.1.lt; have c3 := M3.out.2.1.cell 2; have f3 := M3.out.2.1.frozen 2; have KEEP3 := Lib.hid (hHeld4.out.step st3 (hne _ HNB.out.2.1)); clear hr3 st3 hne hE; simp only [List.getElem?_toArray, List.getElem?_cons_zero, List.getElem?_cons_succ] at c3
              refine hK.out _ _ (KEEP3) (fun hHeld5 => ?_)
              clear hK K hHeld4
              try simp only [Act.put, List.setIfInBounds_toArray, List.set_cons_zero, List.set_cons_succ, List.getElem_toArray, List.getElem_cons_zero, List.getElem_cons_succ]
              refine wpAnyH_ready (rs := [6]) (by kernel_rfl) (by simp) ?_
              refine AllReadyH.cons rfl (fun K hK => ?_) AllReadyH.nil
              refine step_append_row rfl (.tmp 49) (.tmp 51) 27 27 rfl 32 i0 _ 8 88 Try.underlying27 HI.out.1 HI.out.2.1 HI.out.2.2.1 HI.out.2.2.2 rfl rfl M3.out.1 rfl (Src.rd 27 32 Try.underlying27 (rd_blk ML.out 8 1 rfl) (lnc_one x1)) (by unfold maxLen; omega) (by omega) (by omega) ?_; intro a9 cap9 w9 hr9 st9; have M9 : Hid (Row w9 8 a9 (c.ls.length + 1) cap9 (lncs c.ls ++ lnc x1) ∧ Blk w9 b 29 #[.int .i64 c.base.count, Str c.base.hash, .slice a c.ls.length cap] ∧ Blk w9 (b + 1 + 1) 29 #[.int .i64 0, Str [], .slice none 0 0] ∧ Step [] (blks a9) w w9 ∧ (∀ j, j < W7.heap.size → j ∉ blks a9)) := ⟨hr9, M3.out.2.1.step st9 (M3.out.2.2.2.2.2.1 _ HNB.out.1), M3.out.2.2.1.step st9 (M3.out.2.2.2.2.2.1 _ HNB.out.2.2), M3.out.2.2.2.2.1.trans st9, fun j hj => st9.notin (by have := M3.out.2.2.2.2.2.2; simp; omega) (M3.out.2.2.2.2.2.1 j hj)⟩; have p9 := M9.out.2.1.lt; have c9 := M9.out.2.1.cell 2; have f9 := M9.out.2.1.frozen 2; have KEEP9 := Lib.hid (hHeld5.out.step st9 (M3.out.2.2.2.2.2.1 _ HNB.out.2.1)); clear hr9 st9; simp only [List.getElem?_toArray, List.getElem?_cons_zero, List.getElem?_cons_succ] at c9
              refine hK.out _ _ (KEEP9) (fun hHeld6 => ?_)
              clear hK K hHeld5
              try simp only [Act.put, List.setIfInBounds_toArray, List.set_cons_zero, List.set_cons_succ, List.getElem_toArray, List.getElem_cons_zero, List.getElem_cons_succ]
              refine wpAnyH_take (i := 7) (v := ?_) rfl (by kernel_rfl) (by kernel_rfl) (by kernel_rfl) (fun _ _ _ h => h) (Or.inl ⟨by rfl, ?_⟩) hHeld6 ?_
              rotate_left
              · intro w hSw
                have hSw1 := hSw
                clear hSw
                try dsimp only at hSw1
                go_simp
                try (with_reducible rfl)
              try simp only [Act.put, List.setIfInBounds_toArray, List.set_cons_zero, List.set_cons_succ, List.getElem_toArray, List.getElem_cons_zero, List.getElem_cons_succ]
              refine wpAnyH_ready (rs := [8]) (by kernel_rfl) (by simp) ?_
              refine AllReadyH.cons rfl (fun K hK => ?_) AllReadyH.nil
              go_simp
              skip
              go_wp2_with fail
              refine hK.out _ _ (Lib.hid (hHeld6.out.far (by simp) _)) (fun hHeld7 => ?_)
              clear hK K hHeld6
              try simp only [Act.put, List.setIfInBounds_toArray, List.set_cons_zero, List.set_cons_succ, List.getElem_toArray, List.getElem_cons_zero, List.getElem_cons_succ]
              refine wpAnyH_done (by kernel_rfl) ?_ _
              obtain ⟨W9, hW9⟩ : ∃ W9, W9 = w9.setCell ⟨b, 2, none⟩ (.slice a9 (c.ls.length + 1) cap9) := ⟨_, rfl⟩
              rw [← hW9]
              have b0 : Blk W9 b 29 #[.int .i64 c.base.count, Str c.base.hash, .slice a9 (c.ls.length + 1) cap9] := by rw [hW9]; simpa using M9.out.2.1.set 2 (.slice a9 (c.ls.length + 1) cap9)
              have z0 : Blk W9 (b + 1 + 1) 29 #[.int .i64 0, Str [], .slice none 0 0] := by rw [hW9]; exact M9.out.2.2.1.far (by simp; omega) _
              have st9 : Step [b] [b] w9 W9 := by rw [hW9]; exact (Step.refl _ w9).setCell (.inl (by simp)) _
              have r0 := M9.out.1.step st9 (fun g hg e => by simp at e; subst e; exact M9.out.2.2.2.2 _ HNB.out.1 hg)
              have HSW : Hid (Step [] [] w W9) := by rw [hW9]; exact (M9.out.2.2.2.1.setCell (.inr (by rw [HBW.out]; exact Nat.le_refl _)) _).drop (by simp)
              clear hW9 st9 hp c2 f2 p3 c3 f3 p9 c9 f9
              have K0 := Lib.hid (And.intro b0 (And.intro z0 (And.intro r0 HSW.out)))
              have e0 := K0.out.1.cell 0
              have e1 := K0.out.1.cell 1
              have e2 := K0.out.1.cell 2
              have e3 := K0.out.1.lt
              have z1 := K0.out.2.1.lt
              have zf0 := K0.out.2.1.frozen 0
              have zf1 := K0.out.2.1.frozen 1
              have zf2 := K0.out.2.1.frozen 2
              have zc0 := K0.out.2.1.cell 0
              have zc1 := K0.out.2.1.cell 1
              have zc2 := K0.out.2.1.cell 2
              simp only [List.getElem?_toArray, List.getElem?_cons_zero, List.getElem?_cons_succ] at e0 e1 e2 zc0 zc1 zc2
              clear b0 z0 r0
              go_wp2_with fail
              have P3 := Blk.put3 K0.out.2.1 (.int .i64 c.base.count) (Str c.base.hash) (.slice a9 (c.ls.length + 1) cap9)
              have SS : Step [b + 1 + 1] [b + 1 + 1] W9 (((W9.setCell ⟨b + 1 + 1, 0, none⟩ (.int .i64 c.base.count)).setCell ⟨b + 1 + 1, 1, none⟩ (Str c.base.hash)).setCell ⟨b + 1 + 1, 2, none⟩ (.slice a9 (c.ls.length + 1) cap9)) := (((Step.refl _ W9).setCell (.inl (by simp)) _).setCell (.inl (by simp)) _).setCell (.inl (by simp)) _
              have SW : Step [] [] w (((W9.setCell ⟨b + 1 + 1, 0, none⟩ (.int .i64 c.base.count)).setCell ⟨b + 1 + 1, 1, none⟩ (Str c.base.hash)).setCell ⟨b + 1 + 1, 2, none⟩ (.slice a9 (c.ls.length + 1) cap9)) := by
                have hbw := HBW.out
                exact ((K0.out.2.2.2.setCell (.inr (by simp; omega)) _).setCell (.inr (by simp; omega)) _).setCell (.inr (by simp; omega)) _
              refine bodyPost_ret (v := .tuple #[.agg #[.int .i64 c.base.count, Str c.base.hash, .slice a9 (c.ls.length + 1) cap9], .bool true]) ?_ rfl ⟨a9, cap9, ?_, ?_, SW, ?_⟩
              · simp [results, Try.results11, go_sem, P3]
              · rw [hYES.out, addL, if_pos hYES.out]; simp
              · rw [addL, if_pos hYES.out]
                have := K0.out.2.2.1.step SS (fun g hg e => by simp at e; subst e; exact M9.out.2.2.2.2 _ HNB.out.2.2 hg)
                rw [HX1.out] at this
                simpa [lncs] using this
              · intro g hg
                rcases M9.out.2.2.2.1.fresh g hg with h9 | h9
                · simp at h9
                · exact .inr h9
          · skip
            go_simp
            skip
            go_wp2_with fail
            refine hK.out _ _ (Lib.hid (hHeld2.out.alloc _)) (fun hHeld3 => ?_)
            clear hK K hHeld2
            try simp only [Act.put, List.setIfInBounds_toArray, List.set_cons_zero, List.set_cons_succ, List.getElem_toArray, List.getElem_cons_zero, List.getElem_cons_succ]
            refine wpAnyH_ready (rs := [0]) (by kernel_rfl) (by simp) ?_
            refine AllReadyH.cons rfl (fun K hK => ?_) AllReadyH.nil
            go_simp
            skip
            go_wp2_with fail
            refine hK.out _ _ (Lib.hid (hHeld3.out.alloc _)) (fun hHeld4 => ?_)
            clear hK K hHeld3
            try simp only [Act.put, List.setIfInBounds_toArray, List.set_cons_zero, List.set_cons_succ, List.getElem_toArray, List.getElem_cons_zero, List.getElem_cons_succ]
            refine wpAnyH_ready (rs := [3]) (by kernel_rfl) (by simp) ?_
            refine AllReadyH.cons rfl (fun K hK => ?_) AllReadyH.nil
            have hE : Row (((W7.drew).alloc (.cells (lnc x1).toArray 32)).alloc (.cells #[] 32)) 8 (some ⟨W7.heap.size + 1, 0, none⟩) 0 0 [] := (by have := Row.empty ((W7.drew).alloc (.cells (lnc x1).toArray 32)) 32 8; simpa using this); refine step_append_row rfl (.tmp 46) (.tmp 48) 27 27 rfl 32 i0 _ 8 88 Try.underlying27 HI.out.1 HI.out.2.1 HI.out.2.2.1 HI.out.2.2.2 rfl rfl hE rfl (Src.rd 27 32 Try.underlying27 (((K7.out.2.2.2.1.drew.alloc _).alloc _).rd) (lncs_one c.ls)) (by unfold maxLen; omega) (by omega) (by omega) ?_; intro a3 cap3 w3 hr3 st3; rw [Nat.zero_add, List.nil_append] at hr3; rw [Nat.zero_add]; have hne : ∀ j, j < W7.heap.size → j ∉ blks (some (⟨W7.heap.size + 1, 0, none⟩ : Addr)) := (by intro j hj; simp [blks]; omega); have M3 : Hid (Row w3 8 a3 c.ls.length cap3 (lncs c.ls) ∧ Blk w3 b 29 #[.int .i64 c.base.count, Str c.base.hash, .slice a c.ls.length cap] ∧ Blk w3 (b + 1 + 1) 29 #[.int .i64 0, Str [], .slice none 0 0] ∧ Row w3 8 a c.ls.length cap (lncs c.ls) ∧ Step [] (blks a3) w w3 ∧ (∀ j, j < W7.heap.size → j ∉ blks a3) ∧ W7.heap.size ≤ w3.heap.size) := ⟨hr3, ((K7.out.1.drew.alloc _).alloc _).step st3 (hne _ HNB.out.1), ((K7.out.2.2.1.drew.alloc _).alloc _).step st3 (hne _ HNB.out.2.2), ((K7.out.2.2.2.1.drew.alloc _).alloc _).step st3 (fun j hj => hne _ (by have := K7.out.2.2.2.1.lt j hj; exact this)), (step_new (((K7.out.2.2.2.2.drew.alloc _).alloc _)) st3 (by have := HSZ.out; simp [blks]; omega)), fun j hj => st3.notin (by simp; omega) (hne j hj), by have := st3.size; simp at this; omega⟩; have hL : Blk (((W7.drew).alloc (.cells (lnc x1).toArray 32)).alloc (.cells #[] 32)) (W7.heap.size) 32 (lnc x1).toArray := ((Blk.new (W7.drew) 32 (lnc x1).toArray).alloc _); have ML := Lib.hid (hL.step st3 (by simp [blks])); clear hL; have p3 := M3.out.2.1.lt; have c3 := M3.out.2.1.cell 2; have f3 := M3.out.2.1.frozen 2; have KEEP3 := Lib.hid (hHeld4.out.step st3 (hne _ HNB.out.2.1)); clear hr3 st3 hne hE; simp only [List.getElem?_toArray, List.getElem?_cons_zero, List.getElem?_cons_succ] at c3
            refine hK.out _ _ (KEEP3) (fun hHeld5 => ?_)
            clear hK K hHeld4
            try simp only [Act.put, List.setIfInBounds_toArray, List.set_cons_zero, List.set_cons_succ, List.getElem_toArray, List.getElem_cons_zero, List.getElem_cons_succ]
            refine wpAnyH_ready (rs := [6]) (by kernel_rfl) (by simp) ?_
            refine AllReadyH.cons rfl (fun K hK => ?_) AllReadyH.nil
            refine step_append_row rfl (.tmp 49) (.tmp 51) 27 27 rfl 32 i0 _ 8 88 Try.underlying27 HI.out.1 HI.out.2.1 HI.out.2.2.1 HI.out.2.2.2 rfl rfl M3.out.1 rfl (Src.rd 27 32 Try.underlying27 (rd_blk ML.out 8 1 rfl) (lnc_one x1)) (by unfold maxLen; omega) (by omega) (by omega) ?_; intro a9 cap9 w9 hr9 st9; have M9 : Hid (Row w9 8 a9 (c.ls.length + 1) cap9 (lncs c.ls ++ lnc x1) ∧ Blk w9 b 29 #[.int .i64 c.base.count, Str c.base.hash, .slice a c.ls.length cap] ∧ Blk w9 (b + 1 + 1) 29 #[.int .i64 0, Str [], .slice none 0 0] ∧ Step [] (blks a9) w w9 ∧ (∀ j, j < W7.heap.size → j ∉ blks a9)) := ⟨hr9, M3.out.2.1.step st9 (M3.out.2.2.2.2.2.1 _ HNB.out.1), M3.out.2.2.1.step st9 (M3.out.2.2.2.2.2.1 _ HNB.out.2.2), M3.out.2.2.2.2.1.trans st9, fun j hj => st9.notin (by have := M3.out.2.2.2.2.2.2; simp; omega) (M3.out.2.2.2.2.2.1 j hj)⟩; have p9 := M9.out.2.1.lt; have c9 := M9.out.2.1.cell 2; have f9 := M9.out.2.1.frozen 2; have KEEP9 := Lib.hid (hHeld5.out.step st9 (M3.out.2.2.2.2.2.1 _ HNB.out.2.1)); clear hr9 st9; simp only [List.getElem?_toArray, List.getElem?_cons_zero, List.getElem?_cons_succ] at c9
            refine hK.out _ _ (KEEP9) (fun hHeld6 => ?_)
            clear hK K hHeld5
            try simp only [Act.put, List.setIfInBounds_toArray, List.set_cons_zero, List.set_cons_succ, List.getElem_toArray, List.getElem_cons_zero, List.getElem_cons_succ]
            refine wpAnyH_take (i := 7) (v := ?_) rfl (by kernel_rfl) (by kernel_rfl) (by kernel_rfl) (fun _ _ _ h => h) (Or.inl ⟨by rfl, ?_⟩) hHeld6 ?_
            rotate_left
            · intro w hSw
              have hSw1 := hSw
              clear hSw
              try dsimp only at hSw1
              go_simp
              try (with_reducible rfl)
            try simp only [Act.put, List.setIfInBounds_toArray, List.set_cons_zero, List.set_cons_succ, List.getElem_toArray, List.getElem_cons_zero, List.getElem_cons_succ]
            refine wpAnyH_ready (rs := [8]) (by kernel_rfl) (by simp) ?_
            refine AllReadyH.cons rfl (fun K hK => ?_) AllReadyH.nil
            go_simp
            skip
            go_wp2_with fail
            refine hK.out _ _ (Lib.hid (hHeld6.out.far (by simp) _)) (fun hHeld7 => ?_)
            clear hK K hHeld6
            try simp only [Act.put, List.setIfInBounds_toArray, List.set_cons_zero, List.set_cons_succ, List.getElem_toArray, List.getElem_cons_zero, List.getElem_cons_succ]
            refine wpAnyH_done (by kernel_rfl) ?_ _
            obtain ⟨W9, hW9⟩ : ∃ W9, W9 = w9.setCell ⟨b, 2, none⟩ (.slice a9 (c.ls.length + 1) cap9) := ⟨_, rfl⟩
            rw [← hW9]
            have b0 : Blk W9 b 29 #[.int .i64 c.base.count, Str c.base.hash, .slice a9 (c.ls.length + 1) cap9] := by rw [hW9]; simpa using M9.out.2.1.set 2 (.slice a9 (c.ls.length + 1) cap9)
            have z0 : Blk W9 (b + 1 + 1) 29 #[.int .i64 0, Str [], .slice none 0 0] := by rw [hW9]; exact M9.out.2.2.1.far (by simp; omega) _
            have st9 : Step [b] [b] w9 W9 := by rw [hW9]; exact (Step.refl _ w9).setCell (.inl (by simp)) _
            have r0 := M9.out.1.step st9 (fun g hg e => by simp at e; subst e; exact M9.out.2.2.2.2 _ HNB.out.1 hg)
            have HSW : Hid (Step [] [] w W9) := by rw [hW9]; exact (M9.out.2.2.2.1.setCell (.inr (by rw [HBW.out]; exact Nat.le_refl _)) _).drop (by simp)
            clear hW9 st9 hp c2 f2 p3 c3 f3 p9 c9 f9
            have K0 := Lib.hid (And.intro b0 (And.intro z0 (And.intro r0 HSW.out)))
            have e0 := K0.out.1.cell 0
            have e1 := K0.out.1.cell 1
            have e2 := K0.out.1.cell 2
            have e3 := K0.out.1.lt
            have z1 := K0.out.2.1.lt
            have zf0 := K0.out.2.1.frozen 0
            have zf1 := K0.out.2.1.frozen 1
            have zf2 := K0.out.2.1.frozen 2
            have zc0 := K0.out.2.1.cell 0
            have zc1 := K0.out.2.1.cell 1
            have zc2 := K0.out.2.1.cell 2
            simp only [List.getElem?_toArray, List.getElem?_cons_zero, List.getElem?_cons_succ] at e0 e1 e2 zc0 zc1 zc2
            clear b0 z0 r0
            go_wp2_with fail
            have P3 := Blk.put3 K0.out.2.1 (.int .i64 c.base.count) (Str c.base.hash) (.slice a9 (c.ls.length + 1) cap9)
            have SS : Step [b + 1 + 1] [b + 1 + 1] W9 (((W9.setCell ⟨b + 1 + 1, 0, none⟩ (.int .i64 c.base.count)).setCell ⟨b + 1 + 1, 1, none⟩ (Str c.base.hash)).setCell ⟨b + 1 + 1, 2, none⟩ (.slice a9 (c.ls.length + 1) cap9)) := (((Step.refl _ W9).setCell (.inl (by simp)) _).setCell (.inl (by simp)) _).setCell (.inl (by simp)) _
            have SW : Step [] [] w (((W9.setCell ⟨b + 1 + 1, 0, none⟩ (.int .i64 c.base.count)).setCell ⟨b + 1 + 1, 1, none⟩ (Str c.base.hash)).setCell ⟨b + 1 + 1, 2, none⟩ (.slice a9 (c.ls.length + 1) cap9)) := by
              have hbw := HBW.out
              exact ((K0.out.2.2.2.setCell (.inr (by simp; omega)) _).setCell (.inr (by simp; omega)) _).setCell (.inr (by simp; omega)) _
            refine bodyPost_ret (v := .tuple #[.agg #[.int .i64 c.base.count, Str c.base.hash, .slice a9 (c.ls.length + 1) cap9], .bool true]) ?_ rfl ⟨a9, cap9, ?_, ?_, SW, ?_⟩
            · simp [results, Try.results11, go_sem, P3]
            · rw [hYES.out, addL, if_pos hYES.out]; simp
            · rw [addL, if_pos hYES.out]
              have := K0.out.2.2.1.step SS (fun g hg e => by simp at e; subst e; exact M9.out.2.2.2.2 _ HNB.out.2.2 hg)
              rw [HX1.out] at this
              simpa [lncs] using this
            · intro g hg
              rcases M9.out.2.2.2.1.fresh g hg with h9 | h9
              · simp at h9
              · exact .inr h9
        · skip
          go_simp
          skip
          go_wp2_with fail
          refine hK.out _ _ (Lib.hid (hHeld.out.alloc _)) (fun hHeld2 => ?_)
          clear hK K hHeld
          try simp only [Act.put, List.setIfInBounds_toArray, List.set_cons_zero, List.set_cons_succ, List.getElem_toArray, List.getElem_cons_zero, List.getElem_cons_succ]
          refine wpAnyH_ready (rs := [0, 2]) (by kernel_rfl) (by simp) ?_
          refine AllReadyH.cons rfl (fun K hK => ?_) (AllReadyH.cons rfl (fun K hK => ?_) (AllReadyH.nil))
          · skip
            go_simp
            skip
            go_wp2_with fail
            refine hK.out _ _ (Lib.hid (hHeld2.out.alloc _)) (fun hHeld3 => ?_)
            clear hK K hHeld2
            try simp only [Act.put, List.setIfInBounds_toArray, List.set_cons_zero, List.set_cons_succ, List.getElem_toArray, List.getElem_cons_zero, List.getElem_cons_succ]
            refine wpAnyH_ready (rs := [2]) (by kernel_rfl) (by simp) ?_
            refine AllReadyH.cons rfl (fun K hK => ?_) AllReadyH.nil
            go_simp
            skip
            go_wp2_with fail
            refine hK.out _ _ (hHeld3) (fun hHeld4 => ?_)
            clear hK K hHeld3
            try simp only [Act.put, List.setIfInBounds_toArray, List.set_cons_zero, List.set_cons_succ, List.getElem_toArray, List.getElem_cons_zero, List.getElem_cons_succ]
            refine wpAnyH_ready (rs := [3]) (by kernel_rfl) (by simp) ?_
            refine AllReadyH.cons rfl (fun K hK => ?_) AllReadyH.nil
            have hE : Row (((W7.drew).alloc (.cells (lnc x1).toArray 32)).alloc (.cells #[] 32)) 8 (some ⟨W7.heap.size + 1, 0, none⟩) 0 0 [] := (by have := Row.empty ((W7.drew).alloc (.cells (lnc x1).toArray 32)) 32 8; simpa using this); refine step_append_row rfl (.tmp 46) (.tmp 48) 27 27 rfl 32 i0 _ 8 88 Try.underlying27 HI.out.1 HI.out.2.1 HI.out.2.2.1 HI.out.2.2.2 rfl rfl hE rfl (Src.rd 27 32 Try.underlying27 (((K7.out.2.2.2.1.drew.alloc _).alloc _).rd) (lncs_one c.ls)) (by unfold maxLen; omega) (by omega) (by omega) ?_; intro a3 cap3 w3 hr3 st3; rw [Nat.zero_add, List.nil_append] at hr3; rw [Nat.zero_add]; have hne : ∀ j, j < W7.heap.size → j ∉ blks (some (⟨W7.heap.size + 1, 0, none⟩ : Addr)) := (by intro j hj; simp [blks]; omega); have M3 : Hid (Row w3 8 a3 c.ls.length cap3 (lncs c.ls) ∧ Blk w3 b 29 #[.int .i64 c.base.count, Str c.base.hash, .slice a c.ls.length cap] ∧ Blk w3 (b + 1 + 1) 29 #[.int .i64 0, Str [], .slice none 0 0] ∧ Row w3 8 a c.ls.length cap (lncs c.ls) ∧ Step [] (blks a3) w w3 ∧ (∀ j, j < W7.heap.size → j ∉ blks a3) ∧ W7.heap.size ≤ w3.heap.size) := ⟨hr3, ((K7.out.1.drew.alloc _).alloc _).step st3 (hne _ HNB.out.1), ((K7.out.2.2.1.drew.alloc _).alloc _).step st3 (hne _ HNB.out.2.2), ((K7.out.2.2.2.1.drew.alloc _).alloc _).step st3 (fun j hj => hne _ (by have := K7.out.2.2.2.1.lt j hj; exact this)), (step_new (((K7.out.2.2.2.2.drew.alloc _).alloc _)) st3 (by have := HSZ.out; simp [blks]; omega)), fun j hj => st3.notin (by simp; omega) (hne j hj), by have := st3.size; simp at this; omega⟩; have hL : Blk (((W7.drew).alloc (.cells (lnc x1).toArray 32)).alloc (.cells #[] 32)) (W7.heap.size) 32 (lnc x1).toArray := ((Blk.new (W7.drew) 32 (lnc x1).toArray).alloc _); have ML := Lib.hid (hL.step st3 (by simp [blks])); clear hL; have p3 := M3.out.2.1.lt; have c3 := M3.out.2.1.cell 2; have f3 := M3.out.2.1.frozen 2; have KEEP3 := Lib.hid (hHeld4.out.step st3 (hne _ HNB.out.2.1)); clear hr3 st3 hne hE; simp only [List.getElem?_toArray, List.getElem?_cons_zero, List.getElem?_cons_succ] at c3
            refine hK.out _ _ (KEEP3) (fun hHeld5 => ?_)
            clear hK K hHeld4
            try simp only [Act.put, List.setIfInBounds_toArray, List.set_cons_zero, List.set_cons_succ, List.getElem_toArray, List.getElem_cons_zero, List.getElem_cons_succ]
            refine wpAnyH_ready (rs := [6]) (by kernel_rfl) (by simp) ?_
            refine AllReadyH.cons rfl (fun K hK => ?_) AllReadyH.nil
            refine step_append_row rfl (.tmp 49) (.tmp 51) 27 27 rfl 32 i0 _ 8 88 Try.underlying27 HI.out.1 HI.out.2.1 HI.out.2.2.1 HI.out.2.2.2 rfl rfl M3.out.1 rfl (Src.rd 27 32 Try.underlying27 (rd_blk ML.out 8 1 rfl) (lnc_one x1)) (by unfold maxLen; omega) (by omega) (by omega) ?_; intro a9 cap9 w9 hr9 st9; have M9 : Hid (Row w9 8 a9 (c.ls.length + 1) cap9 (lncs c.ls ++ lnc x1) ∧ Blk w9 b 29 #[.int .i64 c.base.count, Str c.base.hash, .slice a c.ls.length cap] ∧ Blk w9 (b + 1 + 1) 29 #[.int .i64 0, Str [], .slice none 0 0] ∧ Step [] (blks a9) w w9 ∧ (∀ j, j < W7.heap.size → j ∉ blks a9)) := ⟨hr9, M3.out.2.1.step st9 (M3.out.2.2.2.2.2.1 _ HNB.out.1), M3.out.2.2.1.step st9 (M3.out.2.2.2.2.2.1 _ HNB.out.2.2), M3.out.2.2.2.2.1.trans st9, fun j hj => st9.notin (by have := M3.out.2.2.2.2.2.2; simp; omega) (M3.out.2.2.2.2.2.1 j hj)⟩; have p9 := M9.out.2.1.lt; have c9 := M9.out.2.1.cell 2; have f9 := M9.out.2.1.frozen 2; have KEEP9 := Lib.hid (hHeld5.out.step st9 (M3.out.2.2.2.2.2.1 _ HNB.out.2.1)); clear hr9 st9; simp only [List.getElem?_toArray, List.getElem?_cons_zero, List.getElem?_cons_succ] at c9
            refine hK.out _ _ (KEEP9) (fun hHeld6 => ?_)
            clear hK K hHeld5
            try simp only [Act.put, List.setIfInBounds_toArray, List.set_cons_zero, List.set_cons_succ, List.getElem_toArray, List.getElem_cons_zero, List.getElem_cons_succ]
            refine wpAnyH_take (i := 7) (v := ?_) rfl (by kernel_rfl) (by kernel_rfl) (by kernel_rfl) (fun _ _ _ h => h) (Or.inl ⟨by rfl, ?_⟩) hHeld6 ?_
            rotate_left
            · intro w hSw
              have hSw1 := hSw
              clear hSw
              try dsimp only at hSw1
              go_simp
              try (with_reducible rfl)
            try simp only [Act.put, List.setIfInBounds_toArray, List.set_cons_zero, List.set_cons_succ, List.getElem_toArray, List.getElem_cons_zero, List.getElem_cons_succ]
            refine wpAnyH_ready (rs := [8]) (by kernel_rfl) (by simp) ?_
            refine AllReadyH.cons rfl (fun K hK => ?_) AllReadyH.nil
            go_simp
            skip
            go_wp2_with fail
            refine hK.out _ _ (Lib.hid (hHeld6.out.far (by simp) _)) (fun hHeld7 => ?_)
            clear hK K hHeld6
            try simp only [Act.put, List.setIfInBounds_toArray, List.set_cons_zero, List.set_cons_succ, List.getElem_toArray, List.getElem_cons_zero, List.getElem_cons_succ]
            refine wpAnyH_done (by kernel_rfl) ?_ _
            obtain ⟨W9, hW9⟩ : ∃ W9, W9 = w9.setCell ⟨b, 2, none⟩ (.slice a9 (c.ls.length + 1) cap9) := ⟨_, rfl⟩
            rw [← hW9]
            have b0 : Blk W9 b 29 #[.int .i64 c.base.count, Str c.base.hash, .slice a9 (c.ls.length + 1) cap9] := by rw [hW9]; simpa using M9.out.2.1.set 2 (.slice a9 (c.ls.length + 1) cap9)
            have z0 : Blk W9 (b + 1 + 1) 29 #[.int .i64 0, Str [], .slice none 0 0] := by rw [hW9]; exact M9.out.2.2.1.far (by simp; omega) _
            have st9 : Step [b] [b] w9 W9 := by rw [hW9]; exact (Step.refl _ w9).setCell (.inl (by simp)) _
            have r0 := M9.out.1.step st9 (fun g hg e => by simp at e; subst e; exact M9.out.2.2.2.2 _ HNB.out.1 hg)
            have HSW : Hid (Step [] [] w W9) := by rw [hW9]; exact (M9.out.2.2.2.1.setCell (.inr (by rw [HBW.out]; exact Nat.le_refl _)) _).drop (by simp)
            clear hW9 st9 hp c2 f2 p3 c3 f3 p9 c9 f9
            have K0 := Lib.hid (And.intro b0 (And.intro z0 (And.intro r0 HSW.out)))
            have e0 := K0.out.1.cell 0
            have e1 := K0.out.1.cell 1
            have e2 := K0.out.1.cell 2
            have e3 := K0.out.1.lt
            have z1 := K0.out.2.1.lt
            have zf0 := K0.out.2.1.frozen 0
            have zf1 := K0.out.2.1.frozen 1
            have zf2 := K0.out.2.1.frozen 2
            have zc0 := K0.out.2.1.cell 0
            have zc1 := K0.out.2.1.cell 1
            have zc2 := K0.out.2.1.cell 2
            simp only [List.getElem?_toArray, List.getElem?_cons_zero, List.getElem?_cons_succ] at e0 e1 e2 zc0 zc1 zc2
            clear b0 z0 r0
            go_wp2_with fail
            have P3 := Blk.put3 K0.out.2.1 (.int .i64 c.base.count) (Str c.base.hash) (.slice a9 (c.ls.length + 1) cap9)
            have SS : Step [b + 1 + 1] [b + 1 + 1] W9 (((W9.setCell ⟨b + 1 + 1, 0, none⟩ (.int .i64 c.base.count)).setCell ⟨b + 1 + 1, 1, none⟩ (Str c.base.hash)).setCell ⟨b + 1 + 1, 2, none⟩ (.slice a9 (c.ls.length + 1) cap9)) := (((Step.refl _ W9).setCell (.inl (by simp)) _).setCell (.inl (by simp)) _).setCell (.inl (by simp)) _
            have SW : Step [] [] w (((W9.setCell ⟨b + 1 + 1, 0, none⟩ (.int .i64 c.base.count)).setCell ⟨b + 1 + 1, 1, none⟩ (Str c.base.hash)).setCell ⟨b + 1 + 1, 2, none⟩ (.slice a9 (c.ls.length + 1) cap9)) := by
              have hbw := HBW.out
              exact ((K0.out.2.2.2.setCell (.inr (by simp; omega)) _).setCell (.inr (by simp; omega)) _).setCell (.inr (by simp; omega)) _
            refine bodyPost_ret (v := .tuple #[.agg #[.int .i64 c.base.count, Str c.base.hash, .slice a9 (c.ls.length + 1) cap9], .bool true]) ?_ rfl ⟨a9, cap9, ?_, ?_, SW, ?_⟩
            · simp [results, Try.results11, go_sem, P3]
            · rw [hYES.out, addL, if_pos hYES.out]; simp
            · rw [addL, if_pos hYES.out]
              have := K0.out.2.2.1.step SS (fun g hg e => by simp at e; subst e; exact M9.out.2.2.2.2 _ HNB.out.2.2 hg)
              rw [HX1.out] at this
              simpa [lncs] using this
            · intro g hg
              rcases M9.out.2.2.2.1.fresh g hg with h9 | h9
              · simp at h9
              · exact .inr h9
          · skip
            go_simp
            skip
            go_wp2_with fail
            refine hK.out _ _ (hHeld2) (fun hHeld3 => ?_)
            clear hK K hHeld2
            try simp only [Act.put, List.setIfInBounds_toArray, List.set_cons_zero, List.set_cons_succ, List.getElem_toArray, List.getElem_cons_zero, List.getElem_cons_succ]
            refine wpAnyH_ready (rs := [0]) (by kernel_rfl) (by simp) ?_
            refine AllReadyH.cons rfl (fun K hK => ?_) AllReadyH.nil
            go_simp
            skip
            go_wp2_with fail
            refine hK.out _ _ (Lib.hid (hHeld3.out.alloc _)) (fun hHeld4 => ?_)
            clear hK K hHeld3
            try simp only [Act.put, List.setIfInBounds_toArray, List.set_cons_zero, List.set_cons_succ, List.getElem_toArray, List.getElem_cons_zero, List.getElem_cons_succ]
            refine wpAnyH_ready (rs := [3]) (by kernel_rfl) (by simp) ?_
            refine AllReadyH.cons rfl (fun K hK => ?_) AllReadyH.nil
            have hE : Row (((W7.drew).alloc (.cells (lnc x1).toArray 32)).alloc (.cells #[] 32)) 8 (some ⟨W7.heap.size + 1, 0, none⟩) 0 0 [] := (by have := Row.empty ((W7.drew).alloc (.cells (lnc x1).toArray 32)) 32 8; simpa using this); refine step_append_row rfl (.tmp 46) (.tmp 48) 27 27 rfl 32 i0 _ 8 88 Try.underlying27 HI.out.1 HI.out.2.1 HI.out.2.2.1 HI.out.2.2.2 rfl rfl hE rfl (Src.rd 27 32 Try.underlying27 (((K7.out.2.2.2.1.drew.alloc _).alloc _).rd) (lncs_one c.ls)) (by unfold maxLen; omega) (by omega) (by omega) ?_; intro a3 cap3 w3 hr3 st3; rw [Nat.zero_add, List.nil_append] at hr3; rw [Nat.zero_add]; have hne : ∀ j, j < W7.heap.size → j ∉ blks (some (⟨W7.heap.size + 1, 0, none⟩ : Addr)) := (by intro j hj; simp [blks]; omega); have M3 : Hid (Row w3 8 a3 c.ls.length cap3 (lncs c.ls) ∧ Blk w3 b 29 #[.int .i64 c.base.count, Str c.base.hash, .slice a c.ls.length cap] ∧ Blk w3 (b + 1 + 1) 29 #[.int .i64 0, Str [], .slice none 0 0] ∧ Row w3 8 a c.ls.length cap (lncs c.ls) ∧ Step [] (blks a3) w w3 ∧ (∀ j, j < W7.heap.size → j ∉ blks a3) ∧ W7.heap.size ≤ w3.heap.size) := ⟨hr3, ((K7.out.1.drew.alloc _).alloc _).step st3 (hne _ HNB.out.1), ((K7.out.2.2.1.drew.alloc _).alloc _).step st3 (hne _ HNB.out.2.2), ((K7.out.2.2.2.1.drew.alloc _).alloc _).step st3 (fun j hj => hne _ (by have := K7.out.2.2.2.1.lt j hj; exact this)), (step_new (((K7.out.2.2.2.2.drew.alloc _).alloc _)) st3 (by have := HSZ.out; simp [blks]; omega)), fun j hj => st3.notin (by simp; omega) (hne j hj), by have := st3.size; simp at this; omega⟩; have hL : Blk (((W7.drew).alloc (.cells (lnc x1).toArray 32)).alloc (.cells #[] 32)) (W7.heap.size) 32 (lnc x1).toArray := ((Blk.new (W7.drew) 32 (lnc x1).toArray).alloc _); have ML := Lib.hid (hL.step st3 (by simp [blks])); clear hL; have p3 := M3.out.2.1.lt; have c3 := M3.out.2.1.cell 2; have f3 := M3.out.2.1.frozen 2; have KEEP3 := Lib.hid (hHeld4.out.step st3 (hne _ HNB.out.2.1)); clear hr3 st3 hne hE; simp only [List.getElem?_toArray, List.getElem?_cons_zero, List.getElem?_cons_succ] at c3
            refine hK.out _ _ (KEEP3) (fun hHeld5 => ?_)
            clear hK K hHeld4
            try simp only [Act.put, List.setIfInBounds_toArray, List.set_cons_zero, List.set_cons_succ, List.getElem_toArray, List.getElem_cons_zero, List.getElem_cons_succ]
            refine wpAnyH_ready (rs := [6]) (by kernel_rfl) (by simp) ?_
            refine AllReadyH.cons rfl (fun K hK => ?_) AllReadyH.nil
            refine step_append_row rfl (.tmp 49) (.tmp 51) 27 27 rfl 32 i0 _ 8 88 Try.underlying27 HI.out.1 HI.out.2.1 HI.out.2.2.1 HI.out.2.2.2 rfl rfl M3.out.1 rfl (Src.rd 27 32 Try.underlying27 (rd_blk ML.out 8 1 rfl) (lnc_one x1)) (by unfold maxLen; omega) (by omega) (by omega) ?_; intro a9 cap9 w9 hr9 st9; have M9 : Hid (Row w9 8 a9 (c.ls.length + 1) cap9 (lncs c.ls ++ lnc x1) ∧ Blk w9 b 29 #[.int .i64 c.base.count, Str c.base.hash, .slice a c.ls.length cap] ∧ Blk w9 (b + 1 + 1) 29 #[.int .i64 0, Str [], .slice none 0 0] ∧ Step [] (blks a9) w w9 ∧ (∀ j, j < W7.heap.size → j ∉ blks a9)) := ⟨hr9, M3.out.2.1.step st9 (M3.out.2.2.2.2.2.1 _ HNB.out.1), M3.out.2.2.1.step st9 (M3.out.2.2.2.2.2.1 _ HNB.out.2.2), M3.out.2.2.2.2.1.trans st9, fun j hj => st9.notin (by have := M3.out.2.2.2.2.2.2; simp; omega) (M3.out.2.2.2.2.2.1 j hj)⟩; have p9 := M9.out.2.1.lt; have c9 := M9.out.2.1.cell 2; have f9 := M9.out.2.1.frozen 2; have KEEP9 := Lib.hid (hHeld5.out.step st9 (M3.out.2.2.2.2.2.1 _ HNB.out.2.1)); clear hr9 st9; simp only [List.getElem?_toArray, List.getElem?_cons_zero, List.getElem?_cons_succ] at c9
            refine hK.out _ _ (KEEP9) (fun hHeld6 => ?_)
            clear hK K hHeld5
            try simp only [Act.put, List.setIfInBounds_toArray, List.set_cons_zero, List.set_cons_succ, List.getElem_toArray, List.getElem_cons_zero, List.getElem_cons_succ]
            refine wpAnyH_take (i := 7) (v := ?_) rfl (by kernel_rfl) (by kernel_rfl) (by kernel_rfl) (fun _ _ _ h => h) (Or.inl ⟨by rfl, ?_⟩) hHeld6 ?_
            rotate_left
            · intro w hSw
              have hSw1 := hSw
              clear hSw
              try dsimp only at hSw1
              go_simp
              try (with_reducible rfl)
            try simp only [Act.put, List.setIfInBounds_toArray, List.set_cons_zero, List.set_cons_succ, List.getElem_toArray, List.getElem_cons_zero, List.getElem_cons_succ]
            refine wpAnyH_ready (rs := [8]) (by kernel_rfl) (by simp) ?_
            refine AllReadyH.cons rfl (fun K hK => ?_) AllReadyH.nil
            go_simp
            skip
            go_wp2_with fail
            refine hK.out _ _ (Lib.hid (hHeld6.out.far (by simp) _)) (fun hHeld7 => ?_)
            clear hK K hHeld6
            try simp only [Act.put, List.setIfInBounds_toArray, List.set_cons_zero, List.set_cons_succ, List.getElem_toArray, List.getElem_cons_zero, List.getElem_cons_succ]
            refine wpAnyH_done (by kernel_rfl) ?_ _
            obtain ⟨W9, hW9⟩ : ∃ W9, W9 = w9.setCell ⟨b, 2, none⟩ (.slice a9 (c.ls.length + 1) cap9) := ⟨_, rfl⟩
            rw [← hW9]
            have b0 : Blk W9 b 29 #[.int .i64 c.base.count, Str c.base.hash, .slice a9 (c.ls.length + 1) cap9] := by rw [hW9]; simpa using M9.out.2.1.set 2 (.slice a9 (c.ls.length + 1) cap9)
            have z0 : Blk W9 (b + 1 + 1) 29 #[.int .i64 0, Str [], .slice none 0 0] := by rw [hW9]; exact M9.out.2.2.1.far (by simp; omega) _
            have st9 : Step [b] [b] w9 W9 := by rw [hW9]; exact (Step.refl _ w9).setCell (.inl (by simp)) _
            have r0 := M9.out.1.step st9 (fun g hg e => by simp at e; subst e; exact M9.out.2.2.2.2 _ HNB.out.1 hg)
            have HSW : Hid (Step [] [] w W9) := by rw [hW9]; exact (M9.out.2.2.2.1.setCell (.inr (by rw [HBW.out]; exact Nat.le_refl _)) _).drop (by simp)
            clear hW9 st9 hp c2 f2 p3 c3 f3 p9 c9 f9
            have K0 := Lib.hid (And.intro b0 (And.intro z0 (And.intro r0 HSW.out)))
            have e0 := K0.out.1.cell 0
            have e1 := K0.out.1.cell 1
            have e2 := K0.out.1.cell 2
            have e3 := K0.out.1.lt
            have z1 := K0.out.2.1.lt
            have zf0 := K0.out.2.1.frozen 0
            have zf1 := K0.out.2.1.frozen 1
            have zf2 := K0.out.2.1.frozen 2
            have zc0 := K0.out.2.1.cell 0
            have zc1 := K0.out.2.1.cell 1
            have zc2 := K0.out.2.1.cell 2
            simp only [List.getElem?_toArray, List.getElem?_cons_zero, List.getElem?_cons_succ] at e0 e1 e2 zc0 zc1 zc2
            clear b0 z0 r0
            go_wp2_with fail
            have P3 := Blk.put3 K0.out.2.1 (.int .i64 c.base.count) (Str c.base.hash) (.slice a9 (c.ls.length + 1) cap9)
            have SS : Step [b + 1 + 1] [b + 1 + 1] W9 (((W9.setCell ⟨b + 1 + 1, 0, none⟩ (.int .i64 c.base.count)).setCell ⟨b + 1 + 1, 1, none⟩ (Str c.base.hash)).setCell ⟨b + 1 + 1, 2, none⟩ (.slice a9 (c.ls.length + 1) cap9)) := (((Step.refl _ W9).setCell (.inl (by simp)) _).setCell (.inl (by simp)) _).setCell (.inl (by simp)) _
            have SW : Step [] [] w (((W9.setCell ⟨b + 1 + 1, 0, none⟩ (.int .i64 c.base.count)).setCell ⟨b + 1 + 1, 1, none⟩ (Str c.base.hash)).setCell ⟨b + 1 + 1, 2, none⟩ (.slice a9 (c.ls.length + 1) cap9)) := by
              have hbw := HBW.out
              exact ((K0.out.2.2.2.setCell (.inr (by simp; omega)) _).setCell (.inr (by simp; omega)) _).setCell (.inr (by simp; omega)) _
            refine bodyPost_ret (v := .tuple #[.agg #[.int .i64 c.base.count, Str c.base.hash, .slice a9 (c.ls.length + 1) cap9], .bool true]) ?_ rfl ⟨a9, cap9, ?_, ?_, SW, ?_⟩
            · simp [results, Try.results11, go_sem, P3]
            · rw [hYES.out, addL, if_pos hYES.out]; simp
            · rw [addL, if_pos hYES.out]
              have := K0.out.2.2.1.step SS (fun g hg e => by simp at e; subst e; exact M9.out.2.2.2.2 _ HNB.out.2.2 hg)
              rw [HX1.out] at this
              simpa [lncs] using this
            · intro g hg
              rcases M9.out.2.2.2.1.fresh g hg with h9 | h9
              · simp at h9
              · exact .inr h9
      · rw [List.concat_eq_append] at hl
        have hlen : c.ls.length = ys.length + 1 := by rw [hl]; simp
        have HY : Hid (c.ls[c.ls.length - 1]? = some y) := Lib.hid (by rw [hlen, hl]; simp)
        have HLA : Hid (lastI c.ls = some y.index) := Lib.hid (by rw [hl]; simp [lastI])
        obtain ⟨g, off, rfl⟩ := HR.out.2.1.some_of_pos (by omega)
        have hld : decide (0 < c.ls.length) = true := decide_eq_true (by omega)
        have q1 : IntKind.i64.wrap ((c.ls.length : Int) - 1) = (c.ls.length : Int) - 1 := IntWalk.i64_in _ (by omega)
        have q2 : (0 : Int) ≤ (c.ls.length : Int) - 1 := by omega
        have q5 : (1 : Int) ≤ (c.ls.length : Int) := by omega
        have q3 : (c.ls.length : Int) - 1 < c.ls.length := by omega
        have q4 : ((c.ls.length : Int) - 1).toNat = c.ls.length - 1 := by omega
        clear hl hlen
        by_cases hle : x.index ≤ y.index
        · have HN := Lib.hid (canAdd_no HLA.out hle)
          have HNO : Hid (addL c x = c) := addL_no HN.out
          have hled : decide (x.index ≤ y.index) = true := decide_eq_true hle
          clear hm hle
          go_upto_region 2 with fail
          refine wp_region_held_drew (S := fun V => Hid (Blk V b 29 #[.int .i64 c.base.count, Str c.base.hash, .slice (some (⟨g, off, none⟩ : Addr)) c.ls.length cap] ∧ Blk V (b + 1) 32 (lnc x).toArray ∧ Rd V 8 (some (⟨g, off, none⟩ : Addr)) c.ls.length (lncs c.ls))) (by kernel_rfl) (Lib.hid ⟨H1.out.1.drew, H1.out.2.1.drew, H1.out.2.2.2.1.rd.drew⟩) (fun hHeld => ?_)
          refine wpAnyH_take (i := 0) (v := ?_) rfl (by kernel_rfl) (by kernel_rfl) (by kernel_rfl) (fun _ _ _ h => h) (Or.inl ⟨by rfl, ?_⟩) hHeld ?_
          rotate_left
          · intro w hSw
            have hSw1 := hSw
            clear hSw
            have hl0 := hSw1.out.2.1.ln
            have hl1 := hSw1.out.2.1.lt
            go_simp
            try (with_reducible rfl)
          try simp only [Act.put, List.setIfInBounds_toArray, List.set_cons_zero, List.set_cons_succ, List.getElem_toArray, List.getElem_cons_zero, List.getElem_cons_succ]
          refine wpAnyH_ready (rs := [1]) (by kernel_rfl) (by simp) ?_
          refine AllReadyH.cons rfl (fun K hK => ?_) AllReadyH.nil
          go_simp
          refine (refLineRight_any x w1.drew).mono ?_; rintro e w2 ⟨rfl, k2⟩; rw [HRT.out]; have H2 := Lib.hid k2; clear k2
          go_wp2_with fail
          refine hK.out _ _ (Lib.hid ⟨hHeld.out.1.step H2.out (by simp), hHeld.out.2.1.step H2.out (by simp), hHeld.out.2.2.step0 H2.out⟩) (fun hHeld2 => ?_)
          clear hK K hHeld
          try simp only [Act.put, List.setIfInBounds_toArray, List.set_cons_zero, List.set_cons_succ, List.getElem_toArray, List.getElem_cons_zero, List.getElem_cons_succ]
          refine wpAnyH_take (i := 2) (v := ?_) rfl (by kernel_rfl) (by kernel_rfl) (by kernel_rfl) (fun _ _ _ h => h) (Or.inl ⟨by rfl, ?_⟩) hHeld2 ?_
          rotate_left
          · intro w hSw
            have hSw1 := hSw
            clear hSw
            try dsimp only at hSw1
            go_simp
            try (with_reducible rfl)
          try simp only [Act.put, List.setIfInBounds_toArray, List.set_cons_zero, List.set_cons_succ, List.getElem_toArray, List.getElem_cons_zero, List.getElem_cons_succ]
          refine wpAnyH_take (i := 3) (v := ?_) rfl (by kernel_rfl) (by kernel_rfl) (by kernel_rfl) (fun _ _ _ h => h) (Or.inl ⟨by rfl, ?_⟩) hHeld2 ?_
          rotate_left
          · intro w hSw
            have hSw1 := hSw
            clear hSw
            try dsimp only at hSw1
            go_simp
            try (with_reducible rfl)
          try simp only [Act.put, List.setIfInBounds_toArray, List.set_cons_zero, List.set_cons_succ, List.getElem_toArray, List.getElem_cons_zero, List.getElem_cons_succ]
          refine wpAnyH_take (i := 4) (v := ?_) rfl (by kernel_rfl) (by kernel_rfl) (by kernel_rfl) (fun _ _ _ h => h) (Or.inl ⟨by rfl, ?_⟩) hHeld2 ?_
          rotate_left
          · intro w hSw
            have hSw1 := hSw
            clear hSw
            try dsimp only at hSw1
            go_simp
            try (with_reducible rfl)
          try simp only [Act.put, List.setIfInBounds_toArray, List.set_cons_zero, List.set_cons_succ, List.getElem_toArray, List.getElem_cons_zero, List.getElem_cons_succ]
          refine wpAnyH_take (i := 5) (v := ?_) rfl (by kernel_rfl) (by kernel_rfl) (by kernel_rfl) (fun _ _ _ h => h) (Or.inl ⟨by rfl, ?_⟩) hHeld2 ?_
          rotate_left
          · intro w hSw
            have hSw1 := hSw
            clear hSw
            try dsimp only at hSw1
            go_simp
            try (with_reducible rfl)
          try simp only [Act.put, List.setIfInBounds_toArray, List.set_cons_zero, List.set_cons_succ, List.getElem_toArray, List.getElem_cons_zero, List.getElem_cons_succ]
          refine wpAnyH_take (i := 6) (v := ?_) rfl (by kernel_rfl) (by kernel_rfl) (by kernel_rfl) (fun _ _ _ h => h) (Or.inl ⟨by rfl, ?_⟩) hHeld2 ?_
          rotate_left
          · intro w hSw
            have hSw1 := hSw
            clear hSw
            try dsimp only at hSw1
            go_simp
            try (with_reducible rfl)
          try simp only [Act.put, List.setIfInBounds_toArray, List.set_cons_zero, List.set_cons_succ, List.getElem_toArray, List.getElem_cons_zero, List.getElem_cons_succ]
          refine wpAnyH_take (i := 7) (v := ?_) rfl (by kernel_rfl) (by kernel_rfl) (by kernel_rfl) (fun _ _ _ h => h) (Or.inl ⟨by rfl, ?_⟩) hHeld2 ?_
          rotate_left
          · intro w hSw
            have hSw1 := hSw
            clear hSw
            try dsimp only at hSw1
            go_simp
            try (with_reducible rfl)
          try simp only [Act.put, List.setIfInBounds_toArray, List.set_cons_zero, List.set_cons_succ, List.getElem_toArray, List.getElem_cons_zero, List.getElem_cons_succ]
          refine wpAnyH_take (i := 8) (v := ?_) rfl (by kernel_rfl) (by kernel_rfl) (by kernel_rfl) (fun _ _ _ h => h) (Or.inl ⟨by rfl, ?_⟩) hHeld2 ?_
          rotate_left
          · intro w hSw
            have hSw1 := hSw
            clear hSw
            try dsimp only at hSw1
            go_simp
            try (with_reducible rfl)
          try simp only [Act.put, List.setIfInBounds_toArray, List.set_cons_zero, List.set_cons_succ, List.getElem_toArray, List.getElem_cons_zero, List.getElem_cons_succ]
          refine wpAnyH_take (i := 9) (v := ?_) rfl (by kernel_rfl) (by kernel_rfl) (by kernel_rfl) (fun _ _ _ h => h) (Or.inl ⟨by rfl, ?_⟩) hHeld2 ?_
          rotate_left
          · intro w hSw
            have hSw1 := hSw
            clear hSw
            have hb0 := hSw1.out.1.cell 2
            have hb1 := hSw1.out.1.lt
            simp only [List.getElem?_toArray, List.getElem?_cons_zero, List.getElem?_cons_succ] at hb0
            go_simp
            try (with_reducible rfl)
          try simp only [Act.put, List.setIfInBounds_toArray, List.set_cons_zero, List.set_cons_succ, List.getElem_toArray, List.getElem_cons_zero, List.getElem_cons_succ]
          refine wpAnyH_take (i := 10) (v := ?_) rfl (by kernel_rfl) (by kernel_rfl) (by kernel_rfl) (fun _ _ _ h => h) (Or.inl ⟨by rfl, ?_⟩) hHeld2 ?_
          rotate_left
          · intro w hSw
            have hSw1 := hSw
            clear hSw
            try dsimp only at hSw1
            go_simp
            try (with_reducible rfl)
          try simp only [Act.put, List.setIfInBounds_toArray, List.set_cons_zero, List.set_cons_succ, List.getElem_toArray, List.getElem_cons_zero, List.getElem_cons_succ]
          refine wpAnyH_take (i := 11) (v := ?_) rfl (by kernel_rfl) (by kernel_rfl) (by kernel_rfl) (fun _ _ _ h => h) (Or.inl ⟨by rfl, ?_⟩) hHeld2 ?_
          rotate_left
          · intro w hSw
            have hSw1 := hSw
            clear hSw
            try dsimp only at hSw1
            go_simp
            try (with_reducible rfl)
          try simp only [Act.put, List.setIfInBounds_toArray, List.set_cons_zero, List.set_cons_succ, List.getElem_toArray, List.getElem_cons_zero, List.getElem_cons_succ]
          refine wpAnyH_take (i := 12) (v := ?_) rfl (by kernel_rfl) (by kernel_rfl) (by kernel_rfl) (fun _ _ _ h => h) (Or.inl ⟨by rfl, ?_⟩) hHeld2 ?_
          rotate_left
          · intro w hSw
            have hSw1 := hSw
            clear hSw
            try dsimp only at hSw1
            go_simp
            try (with_reducible rfl)
          try simp only [Act.put, List.setIfInBounds_toArray, List.set_cons_zero, List.set_cons_succ, List.getElem_toArray, List.getElem_cons_zero, List.getElem_cons_succ]
          refine wpAnyH_take (i := 13) (v := ?_) rfl (by kernel_rfl) (by kernel_rfl) (by kernel_rfl) (fun _ _ _ h => h) (Or.inl ⟨by rfl, ?_⟩) hHeld2 ?_
          rotate_left
          · intro w hSw
            have hSw1 := hSw
            clear hSw
            try dsimp only at hSw1
            go_simp
            try (with_reducible rfl)
          try simp only [Act.put, List.setIfInBounds_toArray, List.set_cons_zero, List.set_cons_succ, List.getElem_toArray, List.getElem_cons_zero, List.getElem_cons_succ]
          refine wpAnyH_take (i := 14) (v := ?_) rfl (by kernel_rfl) (by kernel_rfl) (by kernel_rfl) (fun _ _ _ h => h) (Or.inl ⟨by rfl, ?_⟩) hHeld2 ?_
          rotate_left
          · intro w hSw
            have hSw1 := hSw
            clear hSw
            have hl0 := hSw1.out.2.1.ln
            have hl1 := hSw1.out.2.1.lt
            go_simp
            try (with_reducible rfl)
          try simp only [Act.put, List.setIfInBounds_toArray, List.set_cons_zero, List.set_cons_succ, List.getElem_toArray, List.getElem_cons_zero, List.getElem_cons_succ]
          refine wpAnyH_take (i := 15) (v := ?_) rfl (by kernel_rfl) (by kernel_rfl) (by kernel_rfl) (fun _ _ _ h => h) (Or.inl ⟨by rfl, ?_⟩) hHeld2 ?_
          rotate_left
          · intro w hSw
            have hSw1 := hSw
            clear hSw
            try dsimp only at hSw1
            go_simp
            try (with_reducible rfl)
          try simp only [Act.put, List.setIfInBounds_toArray, List.set_cons_zero, List.set_cons_succ, List.getElem_toArray, List.getElem_cons_zero, List.getElem_cons_succ]
          refine wpAnyH_take (i := 16) (v := ?_) rfl (by kernel_rfl) (by kernel_rfl) (by kernel_rfl) (fun _ _ _ h => h) (Or.inl ⟨by rfl, ?_⟩) hHeld2 ?_
          rotate_left
          · intro w hSw
            have hSw1 := hSw
            clear hSw
            have hb0 := hSw1.out.1.cell 2
            have hb1 := hSw1.out.1.lt
            simp only [List.getElem?_toArray, List.getElem?_cons_zero, List.getElem?_cons_succ] at hb0
            go_simp
            try (with_reducible rfl)
          try simp only [Act.put, List.setIfInBounds_toArray, List.set_cons_zero, List.set_cons_succ, List.getElem_toArray, List.getElem_cons_zero, List.getElem_cons_succ]
          refine wpAnyH_take (i := 17) (v := ?_) rfl (by kernel_rfl) (by kernel_rfl) (by kernel_rfl) (fun _ _ _ h => h) (Or.inl ⟨by rfl, ?_⟩) hHeld2 ?_
          rotate_left
          · intro w hSw
            have hSw1 := hSw
            clear hSw
            try dsimp only at hSw1
            go_simp
            try (with_reducible rfl)
          try simp only [Act.put, List.setIfInBounds_toArray, List.set_cons_zero, List.set_cons_succ, List.getElem_toArray, List.getElem_cons_zero, List.getElem_cons_succ]
          refine wpAnyH_take (i := 18) (v := ?_) rfl (by kernel_rfl) (by kernel_rfl) (by kernel_rfl) (fun _ _ _ h => h) (Or.inl ⟨by rfl, ?_⟩) hHeld2 ?_
          rotate_left
          · intro w hSw
            have hSw1 := hSw
            clear hSw
            have hb0 := hSw1.out.1.cell 2
            have hb1 := hSw1.out.1.lt
            simp only [List.getElem?_toArray, List.getElem?_cons_zero, List.getElem?_cons_succ] at hb0
            go_simp
            try (with_reducible rfl)
          try simp only [Act.put, List.setIfInBounds_toArray, List.set_cons_zero, List.set_cons_succ, List.getElem_toArray, List.getElem_cons_zero, List.getElem_cons_succ]
          refine wpAnyH_take (i := 19) (v := ?_) rfl (by kernel_rfl) (by kernel_rfl) (by kernel_rfl) (fun _ _ _ h => h) (Or.inl ⟨by rfl, ?_⟩) hHeld2 ?_
          rotate_left
          · intro w hSw
            have hSw1 := hSw
            clear hSw
            try dsimp only at hSw1
            go_simp
            try (with_reducible rfl)
          try simp only [Act.put, List.setIfInBounds_toArray, List.set_cons_zero, List.set_cons_succ, List.getElem_toArray, List.getElem_cons_zero, List.getElem_cons_succ]
          refine wpAnyH_take (i := 20) (v := ?_) rfl (by kernel_rfl) (by kernel_rfl) (by kernel_rfl) (fun _ _ _ h => h) (Or.inl ⟨by rfl, ?_⟩) hHeld2 ?_
          rotate_left
          · intro w hSw
            have hSw1 := hSw
            clear hSw
            try dsimp only at hSw1
            go_simp
            try (with_reducible rfl)
          try simp only [Act.put, List.setIfInBounds_toArray, List.set_cons_zero, List.set_cons_succ, List.getElem_toArray, List.getElem_cons_zero, List.getElem_cons_succ]
          refine wpAnyH_take (i := 21) (v := ?_) rfl (by kernel_rfl) (by kernel_rfl) (by kernel_rfl) (fun _ _ _ h => h) (Or.inl ⟨by rfl, ?_⟩) hHeld2 ?_
          rotate_left
          · intro w hSw
            have hSw1 := hSw
            clear hSw
            try dsimp only at hSw1
            go_simp
            try (with_reducible rfl)
          try simp only [Act.put, List.setIfInBounds_toArray, List.set_cons_zero, List.set_cons_succ, List.getElem_toArray, List.getElem_cons_zero, List.getElem_cons_succ]
          refine wpAnyH_take (i := 22) (v := ?_) rfl (by kernel_rfl) (by kernel_rfl) (by kernel_rfl) (fun _ _ _ h => h) (Or.inl ⟨by rfl, ?_⟩) hHeld2 ?_
          rotate_left
          · intro w hSw
            have hSw1 := hSw
            clear hSw
            try dsimp only at hSw1
            go_simp
            try (with_reducible rfl)
          try simp only [Act.put, List.setIfInBounds_toArray, List.set_cons_zero, List.set_cons_succ, List.getElem_toArray, List.getElem_cons_zero, List.getElem_cons_succ]
          refine wpAnyH_take (i := 23) (v := ?_) rfl (by kernel_rfl) (by kernel_rfl) (by kernel_rfl) (fun _ _ _ h => h) (Or.inl ⟨by rfl, ?_⟩) hHeld2 ?_
          rotate_left
          · intro w hSw
            have hSw1 := hSw
            clear hSw
            have hy0 := (rd_line hSw1.out.2.2 HY.out).1
            have hg0 : g < w.heap.size := by have := World.block_lt_of_cell? _ _ hy0; simpa using this
            go_simp
            try (with_reducible rfl)
          try simp only [Act.put, List.setIfInBounds_toArray, List.set_cons_zero, List.set_cons_succ, List.getElem_toArray, List.getElem_cons_zero, List.getElem_cons_succ]
          refine wpAnyH_take (i := 24) (v := ?_) rfl (by kernel_rfl) (by kernel_rfl) (by kernel_rfl) (fun _ _ _ h => h) (Or.inl ⟨by rfl, ?_⟩) hHeld2 ?_
          rotate_left
          · intro w hSw
            have hSw1 := hSw
            clear hSw
            try dsimp only at hSw1
            go_simp
            try (with_reducible rfl)
          try simp only [Act.put, List.setIfInBounds_toArray, List.set_cons_zero, List.set_cons_succ, List.getElem_toArray, List.getElem_cons_zero, List.getElem_cons_succ]
          refine wpAnyH_take (i := 25) (v := ?_) rfl (by kernel_rfl) (by kernel_rfl) (by kernel_rfl) (fun _ _ _ h => h) (Or.inl ⟨by rfl, ?_⟩) hHeld2 ?_
          rotate_left
          · intro w hSw
            have hSw1 := hSw
            clear hSw
            try dsimp only at hSw1
            go_simp
            try (with_reducible rfl)
          try simp only [Act.put, List.setIfInBounds_toArray, List.set_cons_zero, List.set_cons_succ, List.getElem_toArray, List.getElem_cons_zero, List.getElem_cons_succ]
          refine wpAnyH_take (i := 26) (v := ?_) rfl (by kernel_rfl) (by kernel_rfl) (by kernel_rfl) (fun _ _ _ h => h) (Or.inl ⟨by rfl, ?_⟩) hHeld2 ?_
          rotate_left
          · intro w hSw
            have hSw1 := hSw
            clear hSw
            try dsimp only at hSw1
            go_simp
            try (with_reducible rfl)
          try simp only [Act.put, List.setIfInBounds_toArray, List.set_cons_zero, List.set_cons_succ, List.getElem_toArray, List.getElem_cons_zero, List.getElem_cons_succ]
          refine wpAnyH_done (by kernel_rfl) ?_ _
          have b0 := H1.out.1.drew.step H2.out (by simp)
          have z0 := H1.out.2.2.1.drew.step H2.out (by simp)
          have r0 := H1.out.2.2.2.1.drew.step H2.out (by simp)
          have K0 := Lib.hid (And.intro b0 (And.intro z0 (And.intro r0 (H1.out.2.2.2.2.1.drew.trans H2.out))))
          have e0 := K0.out.1.cell 0
          have e1 := K0.out.1.cell 1
          have e2 := K0.out.1.cell 2
          have e3 := K0.out.1.lt
          have z1 := K0.out.2.1.lt
          have zf0 := K0.out.2.1.frozen 0
          have zf1 := K0.out.2.1.frozen 1
          have zf2 := K0.out.2.1.frozen 2
          have zc0 := K0.out.2.1.cell 0
          have zc1 := K0.out.2.1.cell 1
          have zc2 := K0.out.2.1.cell 2
          simp only [List.getElem?_toArray, List.getElem?_cons_zero, List.getElem?_cons_succ] at e0 e1 e2 zc0 zc1 zc2
          clear b0 z0 r0
          go_wp2_with fail
          have P3 := Blk.put3 K0.out.2.1 (.int .i64 c.base.count) (Str c.base.hash) (.slice (some (⟨g, off, none⟩ : Addr)) (c.ls.length) cap)
          have SS : Step [b + 1 + 1] [b + 1 + 1] w2 (((w2.setCell ⟨b + 1 + 1, 0, none⟩ (.int .i64 c.base.count)).setCell ⟨b + 1 + 1, 1, none⟩ (Str c.base.hash)).setCell ⟨b + 1 + 1, 2, none⟩ (.slice (some (⟨g, off, none⟩ : Addr)) (c.ls.length) cap)) := (((Step.refl _ w2).setCell (.inl (by simp)) _).setCell (.inl (by simp)) _).setCell (.inl (by simp)) _
          have SW : Step [] [] w (((w2.setCell ⟨b + 1 + 1, 0, none⟩ (.int .i64 c.base.count)).setCell ⟨b + 1 + 1, 1, none⟩ (Str c.base.hash)).setCell ⟨b + 1 + 1, 2, none⟩ (.slice (some (⟨g, off, none⟩ : Addr)) (c.ls.length) cap)) := by
            have hbw := H1.out.2.2.2.2.2
            exact ((K0.out.2.2.2.setCell (.inr (by simp; omega)) _).setCell (.inr (by simp; omega)) _).setCell (.inr (by simp; omega)) _
          refine bodyPost_ret (v := .tuple #[.agg #[.int .i64 c.base.count, Str c.base.hash, .slice (some (⟨g, off, none⟩ : Addr)) (c.ls.length) cap], .bool false]) ?_ rfl ⟨(some (⟨g, off, none⟩ : Addr)), cap, ?_, ?_, SW, fun g hg => .inl hg⟩
          · simp [results, Try.results11, go_sem, P3]
          · rw [HN.out, HNO.out]
          · rw [HNO.out]
            refine K0.out.2.2.1.step SS (fun g hg e => ?_)
            have := HR.out.2.1.lt g hg
            have hbw := H1.out.2.2.2.2.2
            simp at e
            omega
        · have hYES := Lib.hid (show canAdd c x = true from canAdd_yes HRT.out (by rw [← HQ.out.2.2]; omega) (by rw [HLA.out]; intro i hi; injection hi with hi; omega))
          have hled : decide (x.index ≤ y.index) = false := decide_eq_false hle
          clear hm hle
          go_upto_region 2 with fail
          refine wp_region_held_drew (S := fun V => Hid (Blk V b 29 #[.int .i64 c.base.count, Str c.base.hash, .slice (some (⟨g, off, none⟩ : Addr)) c.ls.length cap] ∧ Blk V (b + 1) 32 (lnc x).toArray ∧ Rd V 8 (some (⟨g, off, none⟩ : Addr)) c.ls.length (lncs c.ls))) (by kernel_rfl) (Lib.hid ⟨H1.out.1.drew, H1.out.2.1.drew, H1.out.2.2.2.1.rd.drew⟩) (fun hHeld => ?_)
          refine wpAnyH_take (i := 0) (v := ?_) rfl (by kernel_rfl) (by kernel_rfl) (by kernel_rfl) (fun _ _ _ h => h) (Or.inl ⟨by rfl, ?_⟩) hHeld ?_
          rotate_left
          · intro w hSw
            have hSw1 := hSw
            clear hSw
            have hl0 := hSw1.out.2.1.ln
            have hl1 := hSw1.out.2.1.lt
            go_simp
            try (with_reducible rfl)
          try simp only [Act.put, List.setIfInBounds_toArray, List.set_cons_zero, List.set_cons_succ, List.getElem_toArray, List.getElem_cons_zero, List.getElem_cons_succ]
          refine wpAnyH_ready (rs := [1]) (by kernel_rfl) (by simp) ?_
          refine AllReadyH.cons rfl (fun K hK => ?_) AllReadyH.nil
          go_simp
          refine (refLineRight_any x w1.drew).mono ?_; rintro e w2 ⟨rfl, k2⟩; rw [HRT.out]; have H2 := Lib.hid k2; clear k2
          go_wp2_with fail
          refine hK.out _ _ (Lib.hid ⟨hHeld.out.1.step H2.out (by simp), hHeld.out.2.1.step H2.out (by simp), hHeld.out.2.2.step0 H2.out⟩) (fun hHeld2 => ?_)
          clear hK K hHeld
          try simp only [Act.put, List.setIfInBounds_toArray, List.set_cons_zero, List.set_cons_succ, List.getElem_toArray, List.getElem_cons_zero, List.getElem_cons_succ]
          refine wpAnyH_take (i := 2) (v := ?_) rfl (by kernel_rfl) (by kernel_rfl) (by kernel_rfl) (fun _ _ _ h => h) (Or.inl ⟨by rfl, ?_⟩) hHeld2 ?_
          rotate_left
          · intro w hSw
            have hSw1 := hSw
            clear hSw
            try dsimp only at hSw1
            go_simp
            try (with_reducible rfl)
          try simp only [Act.put, List.setIfInBounds_toArray, List.set_cons_zero, List.set_cons_succ, List.getElem_toArray, List.getElem_cons_zero, List.getElem_cons_succ]
          refine wpAnyH_take (i := 3) (v := ?_) rfl (by kernel_rfl) (by kernel_rfl) (by kernel_rfl) (fun _ _ _ h => h) (Or.inl ⟨by rfl, ?_⟩) hHeld2 ?_
          rotate_left
          · intro w hSw
            have hSw1 := hSw
            clear hSw
            try dsimp only at hSw1
            go_simp
            try (with_reducible rfl)
          try simp only [Act.put, List.setIfInBounds_toArray, List.set_cons_zero, List.set_cons_succ, List.getElem_toArray, List.getElem_cons_zero, List.getElem_cons_succ]
          refine wpAnyH_take (i := 4) (v := ?_) rfl (by kernel_rfl) (by kernel_rfl) (by kernel_rfl) (fun _ _ _ h => h) (Or.inl ⟨by rfl, ?_⟩) hHeld2 ?_
          rotate_left
          · intro w hSw
            have hSw1 := hSw
            clear hSw
            try dsimp only at hSw1
            go_simp
            try (with_reducible rfl)
          try simp only [Act.put, List.setIfInBounds_toArray, List.set_cons_zero, List.set_cons_succ, List.getElem_toArray, List.getElem_cons_zero, List.getElem_cons_succ]
          refine wpAnyH_take (i := 5) (v := ?_) rfl (by kernel_rfl) (by kernel_rfl) (by kernel_rfl) (fun _ _ _ h => h) (Or.inl ⟨by rfl, ?_⟩) hHeld2 ?_
          rotate_left
          · intro w hSw
            have hSw1 := hSw
            clear hSw
            try dsimp only at hSw1
            go_simp
            try (with_reducible rfl)
          try simp only [Act.put, List.setIfInBounds_toArray, List.set_cons_zero, List.set_cons_succ, List.getElem_toArray, List.getElem_cons_zero, List.getElem_cons_succ]
          refine wpAnyH_take (i := 6) (v := ?_) rfl (by kernel_rfl) (by kernel_rfl) (by kernel_rfl) (fun _ _ _ h => h) (Or.inl ⟨by rfl, ?_⟩) hHeld2 ?_
          rotate_left
          · intro w hSw
            have hSw1 := hSw
            clear hSw
            try dsimp only at hSw1
            go_simp
            try (with_reducible rfl)
          try simp only [Act.put, List.setIfInBounds_toArray, List.set_cons_zero, List.set_cons_succ, List.getElem_toArray, List.getElem_cons_zero, List.getElem_cons_succ]
          refine wpAnyH_take (i := 7) (v := ?_) rfl (by kernel_rfl) (by kernel_rfl) (by kernel_rfl) (fun _ _ _ h => h) (Or.inl ⟨by rfl, ?_⟩) hHeld2 ?_
          rotate_left
          · intro w hSw
            have hSw1 := hSw
            clear hSw
            try dsimp only at hSw1
            go_simp
            try (with_reducible rfl)
          try simp only [Act.put, List.setIfInBounds_toArray, List.set_cons_zero, List.set_cons_succ, List.getElem_toArray, List.getElem_cons_zero, List.getElem_cons_succ]
          refine wpAnyH_take (i := 8) (v := ?_) rfl (by kernel_rfl) (by kernel_rfl) (by kernel_rfl) (fun _ _ _ h => h) (Or.inl ⟨by rfl, ?_⟩) hHeld2 ?_
          rotate_left
          · intro w hSw
            have hSw1 := hSw
            clear hSw
            try dsimp only at hSw1
            go_simp
            try (with_reducible rfl)
          try simp only [Act.put, List.setIfInBounds_toArray, List.set_cons_zero, List.set_cons_succ, List.getElem_toArray, List.getElem_cons_zero, List.getElem_cons_succ]
          refine wpAnyH_take (i := 9) (v := ?_) rfl (by kernel_rfl) (by kernel_rfl) (by kernel_rfl) (fun _ _ _ h => h) (Or.inl ⟨by rfl, ?_⟩) hHeld2 ?_
          rotate_left
          · intro w hSw
            have hSw1 := hSw
            clear hSw
            have hb0 := hSw1.out.1.cell 2
            have hb1 := hSw1.out.1.lt
            simp only [List.getElem?_toArray, List.getElem?_cons_zero, List.getElem?_cons_succ] at hb0
            go_simp
            try (with_reducible rfl)
          try simp only [Act.put, List.setIfInBounds_toArray, List.set_cons_zero, List.set_cons_succ, List.getElem_toArray, List.getElem_cons_zero, List.getElem_cons_succ]
          refine wpAnyH_take (i := 10) (v := ?_) rfl (by kernel_rfl) (by kernel_rfl) (by kernel_rfl) (fun _ _ _ h => h) (Or.inl ⟨by rfl, ?_⟩) hHeld2 ?_
          rotate_left
          · intro w hSw
            have hSw1 := hSw
            clear hSw
            try dsimp only at hSw1
            go_simp
            try (with_reducible rfl)
          try simp only [Act.put, List.setIfInBounds_toArray, List.set_cons_zero, List.set_cons_succ, List.getElem_toArray, List.getElem_cons_zero, List.getElem_cons_succ]
          refine wpAnyH_take (i := 11) (v := ?_) rfl (by kernel_rfl) (by kernel_rfl) (by kernel_rfl) (fun _ _ _ h => h) (Or.inl ⟨by rfl, ?_⟩) hHeld2 ?_
          rotate_left
          · intro w hSw
            have hSw1 := hSw
            clear hSw
            try dsimp only at hSw1
            go_simp
            try (with_reducible rfl)
          try simp only [Act.put, List.setIfInBounds_toArray, List.set_cons_zero, List.set_cons_succ, List.getElem_toArray, List.getElem_cons_zero, List.getElem_cons_succ]
          refine wpAnyH_take (i := 12) (v := ?_) rfl (by kernel_rfl) (by kernel_rfl) (by kernel_rfl) (fun _ _ _ h => h) (Or.inl ⟨by rfl, ?_⟩) hHeld2 ?_
          rotate_left
          · intro w hSw
            have hSw1 := hSw
            clear hSw
            try dsimp only at hSw1
            go_simp
            try (with_reducible rfl)
          try simp only [Act.put, List.setIfInBounds_toArray, List.set_cons_zero, List.set_cons_succ, List.getElem_toArray, List.getElem_cons_zero, List.getElem_cons_succ]
          refine wpAnyH_take (i := 13) (v := ?_) rfl (by kernel_rfl) (by kernel_rfl) (by kernel_rfl) (fun _ _ _ h => h) (Or.inl ⟨by rfl, ?_⟩) hHeld2 ?_
          rotate_left
          · intro w hSw
            have hSw1 := hSw
            clear hSw
            try dsimp only at hSw1
            go_simp
            try (with_reducible rfl)
          try simp only [Act.put, List.setIfInBounds_toArray, List.set_cons_zero, List.set_cons_succ, List.getElem_toArray, List.getElem_cons_zero, List.getElem_cons_succ]
          refine wpAnyH_take (i := 14) (v := ?_) rfl (by kernel_rfl) (by kernel_rfl) (by kernel_rfl) (fun _ _ _ h => h) (Or.inl ⟨by rfl, ?_⟩) hHeld2 ?_
          rotate_left
          · intro w hSw
            have hSw1 := hSw
            clear hSw
            have hl0 := hSw1.out.2.1.ln
            have hl1 := hSw1.out.2.1.lt
            go_simp
            try (with_reducible rfl)
          try simp only [Act.put, List.setIfInBounds_toArray, List.set_cons_zero, List.set_cons_succ, List.getElem_toArray, List.getElem_cons_zero, List.getElem_cons_succ]
          refine wpAnyH_take (i := 15) (v := ?_) rfl (by kernel_rfl) (by kernel_rfl) (by kernel_rfl) (fun _ _ _ h => h) (Or.inl ⟨by rfl, ?_⟩) hHeld2 ?_
          rotate_left
          · intro w hSw
            have hSw1 := hSw
            clear hSw
            try dsimp only at hSw1
            go_simp
            try (with_reducible rfl)
          try simp only [Act.put, List.setIfInBounds_toArray, List.set_cons_zero, List.set_cons_succ, List.getElem_toArray, List.getElem_cons_zero, List.getElem_cons_succ]
          refine wpAnyH_take (i := 16) (v := ?_) rfl (by kernel_rfl) (by kernel_rfl) (by kernel_rfl) (fun _ _ _ h => h) (Or.inl ⟨by rfl, ?_⟩) hHeld2 ?_
          rotate_left
          · intro w hSw
            have hSw1 := hSw
            clear hSw
            have hb0 := hSw1.out.1.cell 2
            have hb1 := hSw1.out.1.lt
            simp only [List.getElem?_toArray, List.getElem?_cons_zero, List.getElem?_cons_succ] at hb0
            go_simp
            try (with_reducible rfl)
          try simp only [Act.put, List.setIfInBounds_toArray, List.set_cons_zero, List.set_cons_succ, List.getElem_toArray, List.getElem_cons_zero, List.getElem_cons_succ]
          refine wpAnyH_take (i := 17) (v := ?_) rfl (by kernel_rfl) (by kernel_rfl) (by kernel_rfl) (fun _ _ _ h => h) (Or.inl ⟨by rfl, ?_⟩) hHeld2 ?_
          rotate_left
          · intro w hSw
            have hSw1 := hSw
            clear hSw
            try dsimp only at hSw1
            go_simp
            try (with_reducible rfl)
          try simp only [Act.put, List.setIfInBounds_toArray, List.set_cons_zero, List.set_cons_succ, List.getElem_toArray, List.getElem_cons_zero, List.getElem_cons_succ]
          refine wpAnyH_take (i := 18) (v := ?_) rfl (by kernel_rfl) (by kernel_rfl) (by kernel_rfl) (fun _ _ _ h => h) (Or.inl ⟨by rfl, ?_⟩) hHeld2 ?_
          rotate_left
          · intro w hSw
            have hSw1 := hSw
            clear hSw
            have hb0 := hSw1.out.1.cell 2
            have hb1 := hSw1.out.1.lt
            simp only [List.getElem?_toArray, List.getElem?_cons_zero, List.getElem?_cons_succ] at hb0
            go_simp
            try (with_reducible rfl)
          try simp only [Act.put, List.setIfInBounds_toArray, List.set_cons_zero, List.set_cons_succ, List.getElem_toArray, List.getElem_cons_zero, List.getElem_cons_succ]
          refine wpAnyH_take (i := 19) (v := ?_) rfl (by kernel_rfl) (by kernel_rfl) (by kernel_rfl) (fun _ _ _ h => h) (Or.inl ⟨by rfl, ?_⟩) hHeld2 ?_
          rotate_left
          · intro w hSw
            have hSw1 := hSw
            clear hSw
            try dsimp only at hSw1
            go_simp
            try (with_reducible rfl)
          try simp only [Act.put, List.setIfInBounds_toArray, List.set_cons_zero, List.set_cons_succ, List.getElem_toArray, List.getElem_cons_zero, List.getElem_cons_succ]
          refine wpAnyH_take (i := 20) (v := ?_) rfl (by kernel_rfl) (by kernel_rfl) (by kernel_rfl) (fun _ _ _ h => h) (Or.inl ⟨by rfl, ?_⟩) hHeld2 ?_
          rotate_left
          · intro w hSw
            have hSw1 := hSw
            clear hSw
            try dsimp only at hSw1
            go_simp
            try (with_reducible rfl)
          try simp only [Act.put, List.setIfInBounds_toArray, List.set_cons_zero, List.set_cons_succ, List.getElem_toArray, List.getElem_cons_zero, List.getElem_cons_succ]
          refine wpAnyH_take (i := 21) (v := ?_) rfl (by kernel_rfl) (by kernel_rfl) (by kernel_rfl) (fun _ _ _ h => h) (Or.inl ⟨by rfl, ?_⟩) hHeld2 ?_
          rotate_left
          · intro w hSw
            have hSw1 := hSw
            clear hSw
            try dsimp only at hSw1
            go_simp
            try (with_reducible rfl)
          try simp only [Act.put, List.setIfInBounds_toArray, List.set_cons_zero, List.set_cons_succ, List.getElem_toArray, List.getElem_cons_zero, List.getElem_cons_succ]
          refine wpAnyH_take (i := 22) (v := ?_) rfl (by kernel_rfl) (by kernel_rfl) (by kernel_rfl) (fun _ _ _ h => h) (Or.inl ⟨by rfl, ?_⟩) hHeld2 ?_
          rotate_left
          · intro w hSw
            have hSw1 := hSw
            clear hSw
            try dsimp only at hSw1
            go_simp
            try (with_reducible rfl)
          try simp only [Act.put, List.setIfInBounds_toArray, List.set_cons_zero, List.set_cons_succ, List.getElem_toArray, List.getElem_cons_zero, List.getElem_cons_succ]
          refine wpAnyH_take (i := 23) (v := ?_) rfl (by kernel_rfl) (by kernel_rfl) (by kernel_rfl) (fun _ _ _ h => h) (Or.inl ⟨by rfl, ?_⟩) hHeld2 ?_
          rotate_left
          · intro w hSw
            have hSw1 := hSw
            clear hSw
            have hy0 := (rd_line hSw1.out.2.2 HY.out).1
            have hg0 : g < w.heap.size := by have := World.block_lt_of_cell? _ _ hy0; simpa using this
            go_simp
            try (with_reducible rfl)
          try simp only [Act.put, List.setIfInBounds_toArray, List.set_cons_zero, List.set_cons_succ, List.getElem_toArray, List.getElem_cons_zero, List.getElem_cons_succ]
          refine wpAnyH_take (i := 24) (v := ?_) rfl (by kernel_rfl) (by kernel_rfl) (by kernel_rfl) (fun _ _ _ h => h) (Or.inl ⟨by rfl, ?_⟩) hHeld2 ?_
          rotate_left
          · intro w hSw
            have hSw1 := hSw
            clear hSw
            try dsimp only at hSw1
            go_simp
            try (with_reducible rfl)
          try simp only [Act.put, List.setIfInBounds_toArray, List.set_cons_zero, List.set_cons_succ, List.getElem_toArray, List.getElem_cons_zero, List.getElem_cons_succ]
          refine wpAnyH_take (i := 25) (v := ?_) rfl (by kernel_rfl) (by kernel_rfl) (by kernel_rfl) (fun _ _ _ h => h) (Or.inl ⟨by rfl, ?_⟩) hHeld2 ?_
          rotate_left
          · intro w hSw
            have hSw1 := hSw
            clear hSw
            try dsimp only at hSw1
            go_simp
            try (with_reducible rfl)
          try simp only [Act.put, List.setIfInBounds_toArray, List.set_cons_zero, List.set_cons_succ, List.getElem_toArray, List.getElem_cons_zero, List.getElem_cons_succ]
          refine wpAnyH_take (i := 26) (v := ?_) rfl (by kernel_rfl) (by kernel_rfl) (by kernel_rfl) (fun _ _ _ h => h) (Or.inl ⟨by rfl, ?_⟩) hHeld2 ?_
          rotate_left
          · intro w hSw
            have hSw1 := hSw
            clear hSw
            try dsimp only at hSw1
            go_simp
            try (with_reducible rfl)
          try simp only [Act.put, List.setIfInBounds_toArray, List.set_cons_zero, List.set_cons_succ, List.getElem_toArray, List.getElem_cons_zero, List.getElem_cons_succ]
          refine wpAnyH_done (by kernel_rfl) ?_ _
          have K2 : Hid (Blk w2 b 29 #[.int .i64 c.base.count, Str c.base.hash, .slice (some (⟨g, off, none⟩ : Addr)) c.ls.length cap] ∧ Blk w2 (b + 1) 32 (lnc x).toArray ∧ Blk w2 (b + 1 + 1) 29 #[.int .i64 0, Str [], .slice none 0 0] ∧ Row w2 8 (some (⟨g, off, none⟩ : Addr)) c.ls.length cap (lncs c.ls) ∧ Step [] [] w w2) := ⟨H1.out.1.drew.step H2.out (by simp), H1.out.2.1.drew.step H2.out (by simp), H1.out.2.2.1.drew.step H2.out (by simp), H1.out.2.2.2.1.drew.step H2.out (by simp), H1.out.2.2.2.2.1.drew.trans H2.out⟩
          have HBW := Lib.hid H1.out.2.2.2.2.2
          clear H1 H2 hmd hld q1 q2 q3 q4 q5 hled
          have bl := K2.out.2.1.ln
          have ll := K2.out.2.1.lt
          go_wp2_with fail
          refine (refNext_any q.count q.hash x w2 (by have := HQ.out.1; omega) (by have := HQ.out.1; omega) HC.out.2.1 HQ.out.2.1).mono ?_
          rintro e w6 ⟨rfl, k6⟩
          have K6 : Hid (Blk w6 b 29 #[.int .i64 c.base.count, Str c.base.hash, .slice (some (⟨g, off, none⟩ : Addr)) c.ls.length cap] ∧ Blk w6 (b + 1) 32 (lnc x).toArray ∧ Blk w6 (b + 1 + 1) 29 #[.int .i64 0, Str [], .slice none 0 0] ∧ Row w6 8 (some (⟨g, off, none⟩ : Addr)) c.ls.length cap (lncs c.ls) ∧ Step [] [] w w6) := ⟨K2.out.1.step k6 (by simp), K2.out.2.1.step k6 (by simp), K2.out.2.2.1.step k6 (by simp), K2.out.2.2.2.1.step k6 (by simp), K2.out.2.2.2.2.trans k6⟩
          clear k6 K2 bl ll
          have bl := K6.out.2.1.ln
          have ll := K6.out.2.1.lt
          have f7 := K6.out.2.1.frozen 7
          go_upto_region 5 with fail
          obtain ⟨x1, hx1⟩ : ∃ x1 : Ln, x1 = { x with hash := nextL q.count q.hash x } := ⟨_, rfl⟩
          obtain ⟨W7, hW7⟩ : ∃ W7, W7 = w6.setCell ⟨b + 1, 7, none⟩ (Str (nextL q.count q.hash x)) := ⟨_, rfl⟩
          rw [← hW7]
          have K7 : Hid (Blk W7 b 29 #[.int .i64 c.base.count, Str c.base.hash, .slice (some (⟨g, off, none⟩ : Addr)) c.ls.length cap] ∧ Blk W7 (b + 1) 32 (lnc x1).toArray ∧ Blk W7 (b + 1 + 1) 29 #[.int .i64 0, Str [], .slice none 0 0] ∧ Row W7 8 (some (⟨g, off, none⟩ : Addr)) c.ls.length cap (lncs c.ls) ∧ Step [] [] w W7) := by
            have st : Step [b + 1] [b + 1] w6 W7 := by rw [hW7]; exact (Step.refl _ w6).setCell (.inl (by simp)) _
            have hbw := HBW.out
            refine ⟨K6.out.1.step st (by simp), ?_, K6.out.2.2.1.step st (by simp), K6.out.2.2.2.1.step st (fun g hg e => ?_), ?_⟩
            · rw [hW7, hx1]; exact K6.out.2.1.set 7 (Str (nextL q.count q.hash x))
            · have := HR.out.2.1.lt g hg
              simp at e
              omega
            · rw [hW7]; exact K6.out.2.2.2.2.setCell (.inr (by simp; omega)) _
          have HX1 : Hid (x1 = addedL c x) := by show _ = _; rw [hx1, HQ.out.2.2]; rfl
          clear hW7 K6 bl ll f7 hx1
          have hp := K7.out.1.lt
          have c2 := K7.out.1.cell 2
          have f2 := K7.out.1.frozen 2
          simp only [List.getElem?_toArray, List.getElem?_cons_zero, List.getElem?_cons_succ] at c2
          obtain ⟨i0, hi, hz0, hz1, hz2⟩ := info_parts Try.info_line
          have HI := Lib.hid (And.intro hi (And.intro hz0 (And.intro hz1 hz2)))
          clear hi hz0 hz1 hz2
          have HNB : Hid (b < W7.heap.size ∧ b + 1 < W7.heap.size ∧ b + 1 + 1 < W7.heap.size) := ⟨K7.out.1.lt, K7.out.2.1.lt, K7.out.2.2.1.lt⟩
          have HSZ := Lib.hid K7.out.2.2.2.2.size
          have hllb := HC.out.1.len
          refine wp_region_held_drew (S := fun V => Hid (Blk V (b + 1) 32 (lnc x1).toArray)) (by kernel_rfl) (Lib.hid K7.out.2.1.drew) (fun hHeld => ?_)
          refine wpAnyH_take (i := 1) (v := ?_) rfl (by kernel_rfl) (by kernel_rfl) (by kernel_rfl) (fun _ _ _ h => h) (Or.inl ⟨by rfl, ?_⟩) hHeld ?_
          rotate_left
          · intro w hSw
            have hSw1 := hSw
            clear hSw
            try dsimp only at hSw1
            go_simp
            try (with_reducible rfl)
          try simp only [Act.put, List.setIfInBounds_toArray, List.set_cons_zero, List.set_cons_succ, List.getElem_toArray, List.getElem_cons_zero, List.getElem_cons_succ]
          refine wpAnyH_take (i := 4) (v := ?_) rfl (by kernel_rfl) (by kernel_rfl) (by kernel_rfl) (fun _ _ _ h => h) (Or.inl ⟨by rfl, ?_⟩) hHeld ?_
          rotate_left
          · intro w hSw
            have hSw1 := hSw
            clear hSw
            have hc := hSw1.out.ln
            have hlt := hSw1.out.lt
            go_simp
            try (with_reducible rfl)
          try simp only [Act.put, List.setIfInBounds_toArray, List.set_cons_zero, List.set_cons_succ, List.getElem_toArray, List.getElem_cons_zero, List.getElem_cons_succ]
          refine wpAnyH_ready (rs := [0, 2, 5]) (by kernel_rfl) (by simp) ?_
          refine AllReadyH.cons rfl (fun K hK => ?_) (AllReadyH.cons rfl (fun K hK => ?_) (AllReadyH.cons rfl (fun K hK => ?_) (AllReadyH.nil)))
          · skip
            go_simp
            skip
            go_wp2_with fail
            refine hK.out _ _ (Lib.hid (hHeld.out.alloc _)) (fun hHeld2 => ?_)
            clear hK K hHeld
            try simp only [Act.put, List.setIfInBounds_toArray, List.set_cons_zero, List.set_cons_succ, List.getElem_toArray, List.getElem_cons_zero, List.getElem_cons_succ]
            refine wpAnyH_ready (rs := [2, 5]) (by kernel_rfl) (by simp) ?_
            refine AllReadyH.cons rfl (fun K hK => ?_) (AllReadyH.cons rfl (fun K hK => ?_) (AllReadyH.nil))
            · skip
              go_simp
              skip
              go_wp2_with fail
              refine hK.out _ _ (hHeld2) (fun hHeld3 => ?_)
              clear hK K hHeld2
              try simp only [Act.put, List.setIfInBounds_toArray, List.set_cons_zero, List.set_cons_succ, List.getElem_toArray, List.getElem_cons_zero, List.getElem_cons_succ]
              refine wpAnyH_ready (rs := [3, 5]) (by kernel_rfl) (by simp) ?_
              refine AllReadyH.cons rfl (fun K hK => ?_) (AllReadyH.cons rfl (fun K hK => ?_) (AllReadyH.nil))
              · skip
                have hE : Row ((W7.drew).alloc (.cells #[] 32)) 8 (some ⟨W7.heap.size, 0, none⟩) 0 0 [] := (by have := Row.empty (W7.drew) 32 8; simpa using this); refine step_append_row rfl (.tmp 46) (.tmp 48) 27 27 rfl 32 i0 _ 8 88 Try.underlying27 HI.out.1 HI.out.2.1 HI.out.2.2.1 HI.out.2.2.2 rfl rfl hE rfl (Src.rd 27 32 Try.underlying27 ((K7.out.2.2.2.1.drew.alloc _).rd) (lncs_one c.ls)) (by unfold maxLen; omega) (by omega) (by omega) ?_; intro a3 cap3 w3 hr3 st3; rw [Nat.zero_add, List.nil_append] at hr3; rw [Nat.zero_add]; have hne : ∀ j, j < W7.heap.size → j ∉ blks (some (⟨W7.heap.size, 0, none⟩ : Addr)) := (by intro j hj; simp [blks]; omega); have M3 : Hid (Row w3 8 a3 c.ls.length cap3 (lncs c.ls) ∧ Blk w3 b 29 #[.int .i64 c.base.count, Str c.base.hash, .slice (some (⟨g, off, none⟩ : Addr)) c.ls.length cap] ∧ Blk w3 (b + 1 + 1) 29 #[.int .i64 0, Str [], .slice none 0 0] ∧ Row w3 8 (some (⟨g, off, none⟩ : Addr)) c.ls.length cap (lncs c.ls) ∧ Step [] (blks a3) w w3 ∧ (∀ j, j < W7.heap.size → j ∉ blks a3) ∧ W7.heap.size ≤ w3.heap.size) := ⟨hr3, (K7.out.1.drew.alloc _).step st3 (hne _ HNB.out.1), (K7.out.2.2.1.drew.alloc _).step st3 (hne _ HNB.out.2.2), (K7.out.2.2.2.1.drew.alloc _).step st3 (fun j hj => hne _ (by have := K7.out.2.2.2.1.lt j hj; exact this)), (step_new ((K7.out.2.2.2.2.drew.alloc _)) st3 (by have := HSZ.out; simp [blks]; omega)), fun j hj => st3.notin (by simp; omega) (hne j hj), by have := st3.size; simp at this; omega⟩; have p3 := M3.out.2.1.lt; have c3 := M3.out.2.1.cell 2; have f3 := M3.out.2.1.frozen 2; have KEEP3 := Lib.hid (hHeld3.out.step st3 (hne _ HNB.out.2.1)); clear hr3 st3 hne hE; simp only [List.getElem?_toArray, List.getElem?_cons_zero, List.getElem?_cons_succ] at c3
                refine hK.out _ _ (KEEP3) (fun hHeld4 => ?_)
                clear hK K hHeld3
                try simp only [Act.put, List.setIfInBounds_toArray, List.set_cons_zero, List.set_cons_succ, List.getElem_toArray, List.getElem_cons_zero, List.getElem_cons_succ]
                refine wpAnyH_ready (rs := [5]) (by kernel_rfl) (by simp) ?_
                refine AllReadyH.cons rfl (fun K hK => ?_) AllReadyH.nil
                go_simp
                skip
                go_wp2_with fail
                refine hK.out _ _ (Lib.hid (hHeld4.out.alloc _)) (fun hHeld5 => ?_)
                clear hK K hHeld4
                try simp only [Act.put, List.setIfInBounds_toArray, List.set_cons_zero, List.set_cons_succ, List.getElem_toArray, List.getElem_cons_zero, List.getElem_cons_succ]
                refine wpAnyH_ready (rs := [6]) (by kernel_rfl) (by simp) ?_
                refine AllReadyH.cons rfl (fun K hK => ?_) AllReadyH.nil
                refine step_append_row rfl (.tmp 49) (.tmp 51) 27 27 rfl 32 i0 _ 8 88 Try.underlying27 HI.out.1 HI.out.2.1 HI.out.2.2.1 HI.out.2.2.2 rfl rfl (M3.out.1.alloc _) rfl (Src.rd 27 32 Try.underlying27 (rd_blk (Blk.new (w3) 32 (lnc x1).toArray) 8 1 rfl) (lnc_one x1)) (by unfold maxLen; omega) (by omega) (by omega) ?_; intro a9 cap9 w9 hr9 st9; have M9 : Hid (Row w9 8 a9 (c.ls.length + 1) cap9 (lncs c.ls ++ lnc x1) ∧ Blk w9 b 29 #[.int .i64 c.base.count, Str c.base.hash, .slice (some (⟨g, off, none⟩ : Addr)) c.ls.length cap] ∧ Blk w9 (b + 1 + 1) 29 #[.int .i64 0, Str [], .slice none 0 0] ∧ Step [] (blks a9) w w9 ∧ (∀ j, j < W7.heap.size → j ∉ blks a9)) := ⟨hr9, (M3.out.2.1.alloc _).step st9 (M3.out.2.2.2.2.2.1 _ HNB.out.1), (M3.out.2.2.1.alloc _).step st9 (M3.out.2.2.2.2.2.1 _ HNB.out.2.2), (M3.out.2.2.2.2.1.alloc _).trans st9, fun j hj => st9.notin (by have := M3.out.2.2.2.2.2.2; simp; omega) (M3.out.2.2.2.2.2.1 j hj)⟩; have p9 := M9.out.2.1.lt; have c9 := M9.out.2.1.cell 2; have f9 := M9.out.2.1.frozen 2; have KEEP9 := Lib.hid (hHeld5.out.step st9 (M3.out.2.2.2.2.2.1 _ HNB.out.2.1)); clear hr9 st9; simp only [List.getElem?_toArray, List.getElem?_cons_zero, List.getElem?_cons_succ] at c9
                refine hK.out _ _ (KEEP9) (fun hHeld6 => ?_)
                clear hK K hHeld5
                try simp only [Act.put, List.setIfInBounds_toArray, List.set_cons_zero, List.set_cons_succ, List.getElem_toArray, List.getElem_cons_zero, List.getElem_cons_succ]
                refine wpAnyH_take (i := 7) (v := ?_) rfl (by kernel_rfl) (by kernel_rfl) (by kernel_rfl) (fun _ _ _ h => h) (Or.inl ⟨by rfl, ?_⟩) hHeld6 ?_
                rotate_left
                · intro w hSw
                  have hSw1 := hSw
                  clear hSw
                  try dsimp only at hSw1
                  go_simp
                  try (with_reducible rfl)
                try simp only [Act.put, List.setIfInBounds_toArray, List.set_cons_zero, List.set_cons_succ, List.getElem_toArray, List.getElem_cons_zero, List.getElem_cons_succ]
                refine wpAnyH_ready (rs := [8]) (by kernel_rfl) (by simp) ?_
                refine AllReadyH.cons rfl (fun K hK => ?_) AllReadyH.nil
                go_simp
                skip
                go_wp2_with fail
                refine hK.out _ _ (Lib.hid (hHeld6.out.far (by simp) _)) (fun hHeld7 => ?_)
                clear hK K hHeld6
                try simp only [Act.put, List.setIfInBounds_toArray, List.set_cons_zero, List.set_cons_succ, List.getElem_toArray, List.getElem_cons_zero, List.getElem_cons_succ]
                refine wpAnyH_done (by kernel_rfl) ?_ _
                obtain ⟨W9, hW9⟩ : ∃ W9, W9 = w9.setCell ⟨b, 2, none⟩ (.slice a9 (c.ls.length + 1) cap9) := ⟨_, rfl⟩
                rw [← hW9]
                have b0 : Blk W9 b 29 #[.int .i64 c.base.count, Str c.base.hash, .slice a9 (c.ls.length + 1) cap9] := by rw [hW9]; simpa using M9.out.2.1.set 2 (.slice a9 (c.ls.length + 1) cap9)
                have z0 : Blk W9 (b + 1 + 1) 29 #[.int .i64 0, Str [], .slice none 0 0] := by rw [hW9]; exact M9.out.2.2.1.far (by simp; omega) _
                have st9 : Step [b] [b] w9 W9 := by rw [hW9]; exact (Step.refl _ w9).setCell (.inl (by simp)) _
                have r0 := M9.out.1.step st9 (fun g hg e => by simp at e; subst e; exact M9.out.2.2.2.2 _ HNB.out.1 hg)
                have HSW : Hid (Step [] [] w W9) := by rw [hW9]; exact (M9.out.2.2.2.1.setCell (.inr (by rw [HBW.out]; exact Nat.le_refl _)) _).drop (by simp)
                clear hW9 st9 hp c2 f2 p3 c3 f3 p9 c9 f9
                have K0 := Lib.hid (And.intro b0 (And.intro z0 (And.intro r0 HSW.out)))
                have e0 := K0.out.1.cell 0
                have e1 := K0.out.1.cell 1
                have e2 := K0.out.1.cell 2
                have e3 := K0.out.1.lt
                have z1 := K0.out.2.1.lt
                have zf0 := K0.out.2.1.frozen 0
                have zf1 := K0.out.2.1.frozen 1
                have zf2 := K0.out.2.1.frozen 2
                have zc0 := K0.out.2.1.cell 0
                have zc1 := K0.out.2.1.cell 1
                have zc2 := K0.out.2.1.cell 2
                simp only [List.getElem?_toArray, List.getElem?_cons_zero, List.getElem?_cons_succ] at e0 e1 e2 zc0 zc1 zc2
                clear b0 z0 r0
                go_wp2_with fail
                have P3 := Blk.put3 K0.out.2.1 (.int .i64 c.base.count) (Str c.base.hash) (.slice a9 (c.ls.length + 1) cap9)
                have SS : Step [b + 1 + 1] [b + 1 + 1] W9 (((W9.setCell ⟨b + 1 + 1, 0, none⟩ (.int .i64 c.base.count)).setCell ⟨b + 1 + 1, 1, none⟩ (Str c.base.hash)).setCell ⟨b + 1 + 1, 2, none⟩ (.slice a9 (c.ls.length + 1) cap9)) := (((Step.refl _ W9).setCell (.inl (by simp)) _).setCell (.inl (by simp)) _).setCell (.inl (by simp)) _
                have SW : Step [] [] w (((W9.setCell ⟨b + 1 + 1, 0, none⟩ (.int .i64 c.base.count)).setCell ⟨b + 1 + 1, 1, none⟩ (Str c.base.hash)).setCell ⟨b + 1 + 1, 2, none⟩ (.slice a9 (c.ls.length + 1) cap9)) := by
                  have hbw := HBW.out
                  exact ((K0.out.2.2.2.setCell (.inr (by simp; omega)) _).setCell (.inr (by simp; omega)) _).setCell (.inr (by simp; omega)) _
                refine bodyPost_ret (v := .tuple #[.agg #[.int .i64 c.base.count, Str c.base.hash, .slice a9 (c.ls.length + 1) cap9], .bool true]) ?_ rfl ⟨a9, cap9, ?_, ?_, SW, ?_⟩
                · simp [results, Try.results11, go_sem, P3]
                · rw [hYES.out, addL, if_pos hYES.out]; simp
                · rw [addL, if_pos hYES.out]
                  have := K0.out.2.2.1.step SS (fun g hg e => by simp at e; subst e; exact M9.out.2.2.2.2 _ HNB.out.2.2 hg)
                  rw [HX1.out] at this
                  simpa [lncs] using this
                · intro g hg
                  rcases M9.out.2.2.2.1.fresh g hg with h9 | h9
                  · simp at h9
                  · exact .inr h9
              · skip
                go_simp
                skip
                go_wp2_with fail
                refine hK.out _ _ (Lib.hid (hHeld3.out.alloc _)) (fun hHeld4 => ?_)
                clear hK K hHeld3
                try simp only [Act.put, List.setIfInBounds_toArray, List.set_cons_zero, List.set_cons_succ, List.getElem_toArray, List.getElem_cons_zero, List.getElem_cons_succ]
                refine wpAnyH_ready (rs := [3]) (by kernel_rfl) (by simp) ?_
                refine AllReadyH.cons rfl (fun K hK => ?_) AllReadyH.nil
                have hE : Row (((W7.drew).alloc (.cells #[] 32)).alloc (.cells (lnc x1).toArray 32)) 8 (some ⟨W7.heap.size, 0, none⟩) 0 0 [] := (Row.alloc (by have := Row.empty (W7.drew) 32 8; simpa using this) _); refine step_append_row rfl (.tmp 46) (.tmp 48) 27 27 rfl 32 i0 _ 8 88 Try.underlying27 HI.out.1 HI.out.2.1 HI.out.2.2.1 HI.out.2.2.2 rfl rfl hE rfl (Src.rd 27 32 Try.underlying27 (((K7.out.2.2.2.1.drew.alloc _).alloc _).rd) (lncs_one c.ls)) (by unfold maxLen; omega) (by omega) (by omega) ?_; intro a3 cap3 w3 hr3 st3; rw [Nat.zero_add, List.nil_append] at hr3; rw [Nat.zero_add]; have hne : ∀ j, j < W7.heap.size → j ∉ blks (some (⟨W7.heap.size, 0, none⟩ : Addr)) := (by intro j hj; simp [blks]; omega); have M3 : Hid (Row w3 8 a3 c.ls.length cap3 (lncs c.ls) ∧ Blk w3 b 29 #[.int .i64 c.base.count, Str c.base.hash, .slice (some (⟨g, off, none⟩ : Addr)) c.ls.length cap] ∧ Blk w3 (b + 1 + 1) 29 #[.int .i64 0, Str [], .slice none 0 0] ∧ Row w3 8 (some (⟨g, off, none⟩ : Addr)) c.ls.length cap (lncs c.ls) ∧ Step [] (blks a3) w w3 ∧ (∀ j, j < W7.heap.size → j ∉ blks a3) ∧ W7.heap.size ≤ w3.heap.size) := ⟨hr3, ((K7.out.1.drew.alloc _).alloc _).step st3 (hne _ HNB.out.1), ((K7.out.2.2.1.drew.alloc _).alloc _).step st3 (hne _ HNB.out.2.2), ((K7.out.2.2.2.1.drew.alloc _).alloc _).step st3 (fun j hj => hne _ (by have := K7.out.2.2.2.1.lt j hj; exact this)), (step_new (((K7.out.2.2.2.2.drew.alloc _).alloc _)) st3 (by have := HSZ.out; simp [blks]; omega)), fun j hj => st3.notin (by simp; omega) (hne j hj), by have := st3.size; simp at this; omega⟩; have hL : Blk (((W7.drew).alloc (.cells #[] 32)).alloc (.cells (lnc x1).toArray 32)) (W7.heap.size + 1) 32 (lnc x1).toArray := (by have := (Blk.new ((W7.drew).alloc (.cells #[] 32)) 32 (lnc x1).toArray); simpa using this); have ML := Lib.hid (hL.step st3 (by simp [blks])); clear hL; have p3 := M3.out.2.1.lt; have c3 := M3.out.2.1.cell 2; have f3 := M3.out.2.1.frozen 2; have KEEP3 := Lib.hid (hHeld4.out.step st3 (hne _ HNB.out.2.1)); clear hr3 st3 hne hE; simp only [List.getElem?_toArray, List.getElem?_cons_zero, List.getElem?_cons_succ] at c3
                refine hK.out _ _ (KEEP3) (fun hHeld5 => ?_)
                clear hK K hHeld4
                try simp only [Act.put, List.setIfInBounds_toArray, List.set_cons_zero, List.set_cons_succ, List.getElem_toArray, List.getElem_cons_zero, List.getElem_cons_succ]
                refine wpAnyH_ready (rs := [6]) (by kernel_rfl) (by simp) ?_
                refine AllReadyH.cons rfl (fun K hK => ?_) AllReadyH.nil
                refine step_append_row rfl (.tmp 49) (.tmp 51) 27 27 rfl 32 i0 _ 8 88 Try.underlying27 HI.out.1 HI.out.2.1 HI.out.2.2.1 HI.out.2.2.2 rfl rfl M3.out.1 rfl (Src.rd 27 32 Try.underlying27 (rd_blk ML.out 8 1 rfl) (lnc_one x1)) (by unfold maxLen; omega) (by omega) (by omega) ?_; intro a9 cap9 w9 hr9 st9; have M9 : Hid (Row w9 8 a9 (c.ls.length + 1) cap9 (lncs c.ls ++ lnc x1) ∧ Blk w9 b 29 #[.int .i64 c.base.count, Str c.base.hash, .slice (some (⟨g, off, none⟩ : Addr)) c.ls.length cap] ∧ Blk w9 (b + 1 + 1) 29 #[.int .i64 0, Str [], .slice none 0 0] ∧ Step [] (blks a9) w w9 ∧ (∀ j, j < W7.heap.size → j ∉ blks a9)) := ⟨hr9, M3.out.2.1.step st9 (M3.out.2.2.2.2.2.1 _ HNB.out.1), M3.out.2.2.1.step st9 (M3.out.2.2.2.2.2.1 _ HNB.out.2.2), M3.out.2.2.2.2.1.trans st9, fun j hj => st9.notin (by have := M3.out.2.2.2.2.2.2; simp; omega) (M3.out.2.2.2.2.2.1 j hj)⟩; have p9 := M9.out.2.1.lt; have c9 := M9.out.2.1.cell 2; have f9 := M9.out.2.1.frozen 2; have KEEP9 := Lib.hid (hHeld5.out.step st9 (M3.out.2.2.2.2.2.1 _ HNB.out.2.1)); clear hr9 st9; simp only [List.getElem?_toArray, List.getElem?_cons_zero, List.getElem?_cons_succ] at c9
                refine hK.out _ _ (KEEP9) (fun hHeld6 => ?_)
                clear hK K hHeld5
                try simp only [Act.put, List.setIfInBounds_toArray, List.set_cons_zero, List.set_cons_succ, List.getElem_toArray, List.getElem_cons_zero, List.getElem_cons_succ]
                refine wpAnyH_take (i := 7) (v := ?_) rfl (by kernel_rfl) (by kernel_rfl) (by kernel_rfl) (fun _ _ _ h => h) (Or.inl ⟨by rfl, ?_⟩) hHeld6 ?_
                rotate_left
                · intro w hSw
                  have hSw1 := hSw
                  clear hSw
                  try dsimp only at hSw1
                  go_simp
                  try (with_reducible rfl)
                try simp only [Act.put, List.setIfInBounds_toArray, List.set_cons_zero, List.set_cons_succ, List.getElem_toArray, List.getElem_cons_zero, List.getElem_cons_succ]
                refine wpAnyH_ready (rs := [8]) (by kernel_rfl) (by simp) ?_
                refine AllReadyH.cons rfl (fun K hK => ?_) AllReadyH.nil
                go_simp
                skip
                go_wp2_with fail
                refine hK.out _ _ (Lib.hid (hHeld6.out.far (by simp) _)) (fun hHeld7 => ?_)
                clear hK K hHeld6
                try simp only [Act.put, List.setIfInBounds_toArray, List.set_cons_zero, List.set_cons_succ, List.getElem_toArray, List.getElem_cons_zero, List.getElem_cons_succ]
                refine wpAnyH_done (by kernel_rfl) ?_ _
                obtain ⟨W9, hW9⟩ : ∃ W9, W9 = w9.setCell ⟨b, 2, none⟩ (.slice a9 (c.ls.length + 1) cap9) := ⟨_, rfl⟩
                rw [← hW9]
                have b0 : Blk W9 b 29 #[.int .i64 c.base.count, Str c.base.hash, .slice a9 (c.ls.length + 1) cap9] := by rw [hW9]; simpa using M9.out.2.1.set 2 (.slice a9 (c.ls.length + 1) cap9)
                have z0 : Blk W9 (b + 1 + 1) 29 #[.int .i64 0, Str [], .slice none 0 0] := by rw [hW9]; exact M9.out.2.2.1.far (by simp; omega) _
                have st9 : Step [b] [b] w9 W9 := by rw [hW9]; exact (Step.refl _ w9).setCell (.inl (by simp)) _
                have r0 := M9.out.1.step st9 (fun g hg e => by simp at e; subst e; exact M9.out.2.2.2.2 _ HNB.out.1 hg)
                have HSW : Hid (Step [] [] w W9) := by rw [hW9]; exact (M9.out.2.2.2.1.setCell (.inr (by rw [HBW.out]; exact Nat.le_refl _)) _).drop (by simp)
                clear hW9 st9 hp c2 f2 p3 c3 f3 p9 c9 f9
                have K0 := Lib.hid (And.intro b0 (And.intro z0 (And.intro r0 HSW.out)))
                have e0 := K0.out.1.cell 0
                have e1 := K0.out.1.cell 1
                have e2 := K0.out.1.cell 2
                have e3 := K0.out.1.lt
                have z1 := K0.out.2.1.lt
                have zf0 := K0.out.2.1.frozen 0
                have zf1 := K0.out.2.1.frozen 1
                have zf2 := K0.out.2.1.frozen 2
                have zc0 := K0.out.2.1.cell 0
                have zc1 := K0.out.2.1.cell 1
                have zc2 := K0.out.2.1.cell 2
                simp only [List.getElem?_toArray, List.getElem?_cons_zero, List.getElem?_cons_succ] at e0 e1 e2 zc0 zc1 zc2
                clear b0 z0 r0
                go_wp2_with fail
                have P3 := Blk.put3 K0.out.2.1 (.int .i64 c.base.count) (Str c.base.hash) (.slice a9 (c.ls.length + 1) cap9)
                have SS : Step [b + 1 + 1] [b + 1 + 1] W9 (((W9.setCell ⟨b + 1 + 1, 0, none⟩ (.int .i64 c.base.count)).setCell ⟨b + 1 + 1, 1, none⟩ (Str c.base.hash)).setCell ⟨b + 1 + 1, 2, none⟩ (.slice a9 (c.ls.length + 1) cap9)) := (((Step.refl _ W9).setCell (.inl (by simp)) _).setCell (.inl (by simp)) _).setCell (.inl (by simp)) _
                have SW : Step [] [] w (((W9.setCell ⟨b + 1 + 1, 0, none⟩ (.int .i64 c.base.count)).setCell ⟨b + 1 + 1, 1, none⟩ (Str c.base.hash)).setCell ⟨b + 1 + 1, 2, none⟩ (.slice a9 (c.ls.length + 1) cap9)) := by
                  have hbw := HBW.out
                  exact ((K0.out.2.2.2.setCell (.inr (by simp; omega)) _).setCell (.inr (by simp; omega)) _).setCell (.inr (by simp; omega)) _
                refine bodyPost_ret (v := .tuple #[.agg #[.int .i64 c.base.count, Str c.base.hash, .slice a9 (c.ls.length + 1) cap9], .bool true]) ?_ rfl ⟨a9, cap9, ?_, ?_, SW, ?_⟩
                · simp [results, Try.results11, go_sem, P3]
                · rw [hYES.out, addL, if_pos hYES.out]; simp
                · rw [addL, if_pos hYES.out]
                  have := K0.out.2.2.1.step SS (fun g hg e => by simp at e; subst e; exact M9.out.2.2.2.2 _ HNB.out.2.2 hg)
                  rw [HX1.out] at this
                  simpa [lncs] using this
                · intro g hg
                  rcases M9.out.2.2.2.1.fresh g hg with h9 | h9
                  · simp at h9
                  · exact .inr h9
            · skip
              go_simp
              skip
              go_wp2_with fail
              refine hK.out _ _ (Lib.hid (hHeld2.out.alloc _)) (fun hHeld3 => ?_)
              clear hK K hHeld2
              try simp only [Act.put, List.setIfInBounds_toArray, List.set_cons_zero, List.set_cons_succ, List.getElem_toArray, List.getElem_cons_zero, List.getElem_cons_succ]
              refine wpAnyH_ready (rs := [2]) (by kernel_rfl) (by simp) ?_
              refine AllReadyH.cons rfl (fun K hK => ?_) AllReadyH.nil
              go_simp
              skip
              go_wp2_with fail
              refine hK.out _ _ (hHeld3) (fun hHeld4 => ?_)
              clear hK K hHeld3
              try simp only [Act.put, List.setIfInBounds_toArray, List.set_cons_zero, List.set_cons_succ, List.getElem_toArray, List.getElem_cons_zero, List.getElem_cons_succ]
              refine wpAnyH_ready (rs := [3]) (by kernel_rfl) (by simp) ?_
              refine AllReadyH.cons rfl (fun K hK => ?_) AllReadyH.nil
              have hE : Row (((W7.drew).alloc (.cells #[] 32)).alloc (.cells (lnc x1).toArray 32)) 8 (some ⟨W7.heap.size, 0, none⟩) 0 0 [] := (Row.alloc (by have := Row.empty (W7.drew) 32 8; simpa using this) _); refine step_append_row rfl (.tmp 46) (.tmp 48) 27 27 rfl 32 i0 _ 8 88 Try.underlying27 HI.out.1 HI.out.2.1 HI.out.2.2.1 HI.out.2.2.2 rfl rfl hE rfl (Src.rd 27 32 Try.underlying27 (((K7.out.2.2.2.1.drew.alloc _).alloc _).rd) (lncs_one c.ls)) (by unfold maxLen; omega) (by omega) (by omega) ?_; intro a3 cap3 w3 hr3 st3; rw [Nat.zero_add, List.nil_append] at hr3; rw [Nat.zero_add]; have hne : ∀ j, j < W7.heap.size → j ∉ blks (some (⟨W7.heap.size, 0, none⟩ : Addr)) := (by intro j hj; simp [blks]; omega); have M3 : Hid (Row w3 8 a3 c.ls.length cap3 (lncs c.ls) ∧ Blk w3 b 29 #[.int .i64 c.base.count, Str c.base.hash, .slice (some (⟨g, off, none⟩ : Addr)) c.ls.length cap] ∧ Blk w3 (b + 1 + 1) 29 #[.int .i64 0, Str [], .slice none 0 0] ∧ Row w3 8 (some (⟨g, off, none⟩ : Addr)) c.ls.length cap (lncs c.ls) ∧ Step [] (blks a3) w w3 ∧ (∀ j, j < W7.heap.size → j ∉ blks a3) ∧ W7.heap.size ≤ w3.heap.size) := ⟨hr3, ((K7.out.1.drew.alloc _).alloc _).step st3 (hne _ HNB.out.1), ((K7.out.2.2.1.drew.alloc _).alloc _).step st3 (hne _ HNB.out.2.2), ((K7.out.2.2.2.1.drew.alloc _).alloc _).step st3 (fun j hj => hne _ (by have := K7.out.2.2.2.1.lt j hj; exact this)), (step_new (((K7.out.2.2.2.2.drew.alloc _).alloc _)) st3 (by have := HSZ.out; simp [blks]; omega)), fun j hj => st3.notin (by simp; omega) (hne j hj), by have := st3.size; simp at this; omega⟩; have hL : Blk (((W7.drew).alloc (.cells #[] 32)).alloc (.cells (lnc x1).toArray 32)) (W7.heap.size + 1) 32 (lnc x1).toArray := (by have := (Blk.new ((W7.drew).alloc (.cells #[] 32)) 32 (lnc x1).toArray); simpa using this); have ML := Lib.hid (hL.step st3 (by simp [blks])); clear hL; have p3 := M3.out.2.1.lt; have c3 := M3.out.2.1.cell 2; have f3 := M3.out.2.1.frozen 2; have KEEP3 := Lib.hid (hHeld4.out.step st3 (hne _ HNB.out.2.1)); clear hr3 st3 hne hE; simp only [List.getElem?_toArray, List.getElem?_cons_zero, List.getElem?_cons_succ] at c3
              refine hK.out _ _ (KEEP3) (fun hHeld5 => ?_)
              clear hK K hHeld4
              try simp only [Act.put, List.setIfInBounds_toArray, List.set_cons_zero, List.set_cons_succ, List.getElem_toArray, List.getElem_cons_zero, List.getElem_cons_succ]
              refine wpAnyH_ready (rs := [6]) (by kernel_rfl) (by simp) ?_
              refine AllReadyH.cons rfl (fun K hK => ?_) AllReadyH.nil
              refine step_append_row rfl (.tmp 49) (.tmp 51) 27 27 rfl 32 i0 _ 8 88 Try.underlying27 HI.out.1 HI.out.2.1 HI.out.2.2.1 HI.out.2.2.2 rfl rfl M3.out.1 rfl (Src.rd 27 32 Try.underlying27 (rd_blk ML.out 8 1 rfl) (lnc_one x1)) (by unfold maxLen; omega) (by omega) (by omega) ?_; intro a9 cap9 w9 hr9 st9; have M9 : Hid (Row w9 8 a9 (c.ls.length + 1) cap9 (lncs c.ls ++ lnc x1) ∧ Blk w9 b 29 #[.int .i64 c.base.count, Str c.base.hash, .slice (some (⟨g, off, none⟩ : Addr)) c.ls.length cap] ∧ Blk w9 (b + 1 + 1) 29 #[.int .i64 0, Str [], .slice none 0 0] ∧ Step [] (blks a9) w w9 ∧ (∀ j, j < W7.heap.size → j ∉ blks a9)) := ⟨hr9, M3.out.2.1.step st9 (M3.out.2.2.2.2.2.1 _ HNB.out.1), M3.out.2.2.1.step st9 (M3.out.2.2.2.2.2.1 _ HNB.out.2.2), M3.out.2.2.2.2.1.trans st9, fun j hj => st9.notin (by have := M3.out.2.2.2.2.2.2; simp; omega) (M3.out.2.2.2.2.2.1 j hj)⟩; have p9 := M9.out.2.1.lt; have c9 := M9.out.2.1.cell 2; have f9 := M9.out.2.1.frozen 2; have KEEP9 := Lib.hid (hHeld5.out.step st9 (M3.out.2.2.2.2.2.1 _ HNB.out.2.1)); clear hr9 st9; simp only [List.getElem?_toArray, List.getElem?_cons_zero, List.getElem?_cons_succ] at c9
              refine hK.out _ _ (KEEP9) (fun hHeld6 => ?_)
              clear hK K hHeld5
              try simp only [Act.put, List.setIfInBounds_toArray, List.set_cons_zero, List.set_cons_succ, List.getElem_toArray, List.getElem_cons_zero, List.getElem_cons_succ]
              refine wpAnyH_take (i := 7) (v := ?_) rfl (by kernel_rfl) (by kernel_rfl) (by kernel_rfl) (fun _ _ _ h => h) (Or.inl ⟨by rfl, ?_⟩) hHeld6 ?_
              rotate_left
              · intro w hSw
                have hSw1 := hSw
                clear hSw
                try dsimp only at hSw1
                go_simp
                try (with_reducible rfl)
              try simp only [Act.put, List.setIfInBounds_toArray, List.set_cons_zero, List.set_cons_succ, List.getElem_toArray, List.getElem_cons_zero, List.getElem_cons_succ]
              refine wpAnyH_ready (rs := [8]) (by kernel_rfl) (by simp) ?_
              refine AllReadyH.cons rfl (fun K hK => ?_) AllReadyH.nil
              go_simp
              skip
              go_wp2_with fail
              refine hK.out _ _ (Lib.hid (hHeld6.out.far (by simp) _)) (fun hHeld7 => ?_)
              clear hK K hHeld6
              try simp only [Act.put, List.setIfInBounds_toArray, List.set_cons_zero, List.set_cons_succ, List.getElem_toArray, List.getElem_cons_zero, List.getElem_cons_succ]
              refine wpAnyH_done (by kernel_rfl) ?_ _
              obtain ⟨W9, hW9⟩ : ∃ W9, W9 = w9.setCell ⟨b, 2, none⟩ (.slice a9 (c.ls.length + 1) cap9) := ⟨_, rfl⟩
              rw [← hW9]
              have b0 : Blk W9 b 29 #[.int .i64 c.base.count, Str c.base.hash, .slice a9 (c.ls.length + 1) cap9] := by rw [hW9]; simpa using M9.out.2.1.set 2 (.slice a9 (c.ls.length + 1) cap9)
              have z0 : Blk W9 (b + 1 + 1) 29 #[.int .i64 0, Str [], .slice none 0 0] := by rw [hW9]; exact M9.out.2.2.1.far (by simp; omega) _
              have st9 : Step [b] [b] w9 W9 := by rw [hW9]; exact (Step.refl _ w9).setCell (.inl (by simp)) _
              have r0 := M9.out.1.step st9 (fun g hg e => by simp at e; subst e; exact M9.out.2.2.2.2 _ HNB.out.1 hg)
              have HSW : Hid (Step [] [] w W9) := by rw [hW9]; exact (M9.out.2.2.2.1.setCell (.inr (by rw [HBW.out]; exact Nat.le_refl _)) _).drop (by simp)
              clear hW9 st9 hp c2 f2 p3 c3 f3 p9 c9 f9
              have K0 := Lib.hid (And.intro b0 (And.intro z0 (And.intro r0 HSW.out)))
              have e0 := K0.out.1.cell 0
              have e1 := K0.out.1.cell 1
              have e2 := K0.out.1.cell 2
              have e3 := K0.out.1.lt
              have z1 := K0.out.2.1.lt
              have zf0 := K0.out.2.1.frozen 0
              have zf1 := K0.out.2.1.frozen 1
              have zf2 := K0.out.2.1.frozen 2
              have zc0 := K0.out.2.1.cell 0
              have zc1 := K0.out.2.1.cell 1
              have zc2 := K0.out.2.1.cell 2
              simp only [List.getElem?_toArray, List.getElem?_cons_zero, List.getElem?_cons_succ] at e0 e1 e2 zc0 zc1 zc2
              clear b0 z0 r0
              go_wp2_with fail
              have P3 := Blk.put3 K0.out.2.1 (.int .i64 c.base.count) (Str c.base.hash) (.slice a9 (c.ls.length + 1) cap9)
              have SS : Step [b + 1 + 1] [b + 1 + 1] W9 (((W9.setCell ⟨b + 1 + 1, 0, none⟩ (.int .i64 c.base.count)).setCell ⟨b + 1 + 1, 1, none⟩ (Str c.base.hash)).setCell ⟨b + 1 + 1, 2, none⟩ (.slice a9 (c.ls.length + 1) cap9)) := (((Step.refl _ W9).setCell (.inl (by simp)) _).setCell (.inl (by simp)) _).setCell (.inl (by simp)) _
              have SW : Step [] [] w (((W9.setCell ⟨b + 1 + 1, 0, none⟩ (.int .i64 c.base.count)).setCell ⟨b + 1 + 1, 1, none⟩ (Str c.base.hash)).setCell ⟨b + 1 + 1, 2, none⟩ (.slice a9 (c.ls.length + 1) cap9)) := by
                have hbw := HBW.out
                exact ((K0.out.2.2.2.setCell (.inr (by simp; omega)) _).setCell (.inr (by simp; omega)) _).setCell (.inr (by simp; omega)) _
              refine bodyPost_ret (v := .tuple #[.agg #[.int .i64 c.base.count, Str c.base.hash, .slice a9 (c.ls.length + 1) cap9], .bool true]) ?_ rfl ⟨a9, cap9, ?_, ?_, SW, ?_⟩
              · simp [results, Try.results11, go_sem, P3]
              · rw [hYES.out, addL, if_pos hYES.out]; simp
              · rw [addL, if_pos hYES.out]
                have := K0.out.2.2.1.step SS (fun g hg e => by simp at e; subst e; exact M9.out.2.2.2.2 _ HNB.out.2.2 hg)
                rw [HX1.out] at this
                simpa [lncs] using this
              · intro g hg
                rcases M9.out.2.2.2.1.fresh g hg with h9 | h9
                · simp at h9
                · exact .inr h9
          · skip
            go_simp
            skip
            go_wp2_with fail
            refine hK.out _ _ (hHeld) (fun hHeld2 => ?_)
            clear hK K hHeld
            try simp only [Act.put, List.setIfInBounds_toArray, List.set_cons_zero, List.set_cons_succ, List.getElem_toArray, List.getElem_cons_zero, List.getElem_cons_succ]
            refine wpAnyH_ready (rs := [0, 5]) (by kernel_rfl) (by simp) ?_
            refine AllReadyH.cons rfl (fun K hK => ?_) (AllReadyH.cons rfl (fun K hK => ?_) (AllReadyH.nil))
            · skip
              go_simp
              skip
              go_wp2_with fail
              refine hK.out _ _ (Lib.hid (hHeld2.out.alloc _)) (fun hHeld3 => ?_)
              clear hK K hHeld2
              try simp only [Act.put, List.setIfInBounds_toArray, List.set_cons_zero, List.set_cons_succ, List.getElem_toArray, List.getElem_cons_zero, List.getElem_cons_succ]
              refine wpAnyH_ready (rs := [3, 5]) (by kernel_rfl) (by simp) ?_
              refine AllReadyH.cons rfl (fun K hK => ?_) (AllReadyH.cons rfl (fun K hK => ?_) (AllReadyH.nil))
              · skip
                have hE : Row ((W7.drew).alloc (.cells #[] 32)) 8 (some ⟨W7.heap.size, 0, none⟩) 0 0 [] := (by have := Row.empty (W7.drew) 32 8; simpa using this); refine step_append_row rfl (.tmp 46) (.tmp 48) 27 27 rfl 32 i0 _ 8 88 Try.underlying27 HI.out.1 HI.out.2.1 HI.out.2.2.1 HI.out.2.2.2 rfl rfl hE rfl (Src.rd 27 32 Try.underlying27 ((K7.out.2.2.2.1.drew.alloc _).rd) (lncs_one c.ls)) (by unfold maxLen; omega) (by omega) (by omega) ?_; intro a3 cap3 w3 hr3 st3; rw [Nat.zero_add, List.nil_append] at hr3; rw [Nat.zero_add]; have hne : ∀ j, j < W7.heap.size → j ∉ blks (some (⟨W7.heap.size, 0, none⟩ : Addr)) := (by intro j hj; simp [blks]; omega); have M3 : Hid (Row w3 8 a3 c.ls.length cap3 (lncs c.ls) ∧ Blk w3 b 29 #[.int .i64 c.base.count, Str c.base.hash, .slice (some (⟨g, off, none⟩ : Addr)) c.ls.length cap] ∧ Blk w3 (b + 1 + 1) 29 #[.int .i64 0, Str [], .slice none 0 0] ∧ Row w3 8 (some (⟨g, off, none⟩ : Addr)) c.ls.length cap (lncs c.ls) ∧ Step [] (blks a3) w w3 ∧ (∀ j, j < W7.heap.size → j ∉ blks a3) ∧ W7.heap.size ≤ w3.heap.size) := ⟨hr3, (K7.out.1.drew.alloc _).step st3 (hne _ HNB.out.1), (K7.out.2.2.1.drew.alloc _).step st3 (hne _ HNB.out.2.2), (K7.out.2.2.2.1.drew.alloc _).step st3 (fun j hj => hne _ (by have := K7.out.2.2.2.1.lt j hj; exact this)), (step_new ((K7.out.2.2.2.2.drew.alloc _)) st3 (by have := HSZ.out; simp [blks]; omega)), fun j hj => st3.notin (by simp; omega) (hne j hj), by have := st3.size; simp at this; omega⟩; have p3 := M3.out.2.1.lt; have c3 := M3.out.2.1.cell 2; have f3 := M3.out.2.1.frozen 2; have KEEP3 := Lib.hid (hHeld3.out.step st3 (hne _ HNB.out.2.1)); clear hr3 st3 hne hE; simp only [List.getElem?_toArray, List.getElem?_cons_zero, List.getElem?_cons_succ] at c3
                refine hK.out _ _ (KEEP3) (fun hHeld4 => ?_)
                clear hK K hHeld3
                try simp only [Act.put, List.setIfInBounds_toArray, List.set_cons_zero, List.set_cons_succ, List.getElem_toArray, List.getElem_cons_zero, List.getElem_cons_succ]
                refine wpAnyH_ready (rs := [5]) (by kernel_rfl) (by simp) ?_
                refine AllReadyH.cons rfl (fun K hK => ?_) AllReadyH.nil
                go_simp
                skip
                go_wp2_with fail
                refine hK.out _ _ (Lib.hid (hHeld4.out.alloc _)) (fun hHeld5 => ?_)
                clear hK K hHeld4
                try simp only [Act.put, List.setIfInBounds_toArray, List.set_cons_zero, List.set_cons_succ, List.getElem_toArray, List.getElem_cons_zero, List.getElem_cons_succ]
                refine wpAnyH_ready (rs := [6]) (by kernel_rfl) (by simp) ?_
                refine AllReadyH.cons rfl (fun K hK => ?_) AllReadyH.nil
                refine step_append_row rfl (.tmp 49) (.tmp 51) 27 27 rfl 32 i0 _ 8 88 Try.underlying27 HI.out.1 HI.out.2.1 HI.out.2.2.1 HI.out.2.2.2 rfl rfl (M3.out.1.alloc _) rfl (Src.rd 27 32 Try.underlying27 (rd_blk (Blk.new (w3) 32 (lnc x1).toArray) 8 1 rfl) (lnc_one x1)) (by unfold maxLen; omega) (by omega) (by omega) ?_; intro a9 cap9 w9 hr9 st9; have M9 : Hid (Row w9 8 a9 (c.ls.length + 1) cap9 (lncs c.ls ++ lnc x1) ∧ Blk w9 b 29 #[.int .i64 c.base.count, Str c.base.hash, .slice (some (⟨g, off, none⟩ : Addr)) c.ls.length cap] ∧ Blk w9 (b + 1 + 1) 29 #[.int .i64 0, Str [], .slice none 0 0] ∧ Step [] (blks a9) w w9 ∧ (∀ j, j < W7.heap.size → j ∉ blks a9)) := ⟨hr9, (M3.out.2.1.alloc _).step st9 (M3.out.2.2.2.2.2.1 _ HNB.out.1), (M3.out.2.2.1.alloc _).step st9 (M3.out.2.2.2.2.2.1 _ HNB.out.2.2), (M3.out.2.2.2.2.1.alloc _).trans st9, fun j hj => st9.notin (by have := M3.out.2.2.2.2.2.2; simp; omega) (M3.out.2.2.2.2.2.1 j hj)⟩; have p9 := M9.out.2.1.lt; have c9 := M9.out.2.1.cell 2; have f9 := M9.out.2.1.frozen 2; have KEEP9 := Lib.hid (hHeld5.out.step st9 (M3.out.2.2.2.2.2.1 _ HNB.out.2.1)); clear hr9 st9; simp only [List.getElem?_toArray, List.getElem?_cons_zero, List.getElem?_cons_succ] at c9
                refine hK.out _ _ (KEEP9) (fun hHeld6 => ?_)
                clear hK K hHeld5
                try simp only [Act.put, List.setIfInBounds_toArray, List.set_cons_zero, List.set_cons_succ, List.getElem_toArray, List.getElem_cons_zero, List.getElem_cons_succ]
                refine wpAnyH_take (i := 7) (v := ?_) rfl (by kernel_rfl) (by kernel_rfl) (by kernel_rfl) (fun _ _ _ h => h) (Or.inl ⟨by rfl, ?_⟩) hHeld6 ?_
                rotate_left
                · intro w hSw
                  have hSw1 := hSw
                  clear hSw
                  try dsimp only at hSw1
                  go_simp
                  try (with_reducible rfl)
                try simp only [Act.put, List.setIfInBounds_toArray, List.set_cons_zero, List.set_cons_succ, List.getElem_toArray, List.getElem_cons_zero, List.getElem_cons_succ]
                refine wpAnyH_ready (rs := [8]) (by kernel_rfl) (by simp) ?_
                refine AllReadyH.cons rfl (fun K hK => ?_) AllReadyH.nil
                go_simp
                skip
                go_wp2_with fail
                refine hK.out _ _ (Lib.hid (hHeld6.out.far (by simp) _)) (fun hHeld7 => ?_)
                clear hK K hHeld6
                try simp only [Act.put, List.setIfInBounds_toArray, List.set_cons_zero, List.set_cons_succ, List.getElem_toArray, List.getElem_cons_zero, List.getElem_cons_succ]
                refine wpAnyH_done (by kernel_rfl) ?_ _
                obtain ⟨W9, hW9⟩ : ∃ W9, W9 = w9.setCell ⟨b, 2, none⟩ (.slice a9 (c.ls.length + 1) cap9) := ⟨_, rfl⟩
                rw [← hW9]
                have b0 : Blk W9 b 29 #[.int .i64 c.base.count, Str c.base.hash, .slice a9 (c.ls.length + 1) cap9] := by rw [hW9]; simpa using M9.out.2.1.set 2 (.slice a9 (c.ls.length + 1) cap9)
                have z0 : Blk W9 (b + 1 + 1) 29 #[.int .i64 0, Str [], .slice none 0 0] := by rw [hW9]; exact M9.out.2.2.1.far (by simp; omega) _
                have st9 : Step [b] [b] w9 W9 := by rw [hW9]; exact (Step.refl _ w9).setCell (.inl (by simp)) _
                have r0 := M9.out.1.step st9 (fun g hg e => by simp at e; subst e; exact M9.out.2.2.2.2 _ HNB.out.1 hg)
                have HSW : Hid (Step [] [] w W9) := by rw [hW9]; exact (M9.out.2.2.2.1.setCell (.inr (by rw [HBW.out]; exact Nat.le_refl _)) _).drop (by simp)
                clear hW9 st9 hp c2 f2 p3 c3 f3 p9 c9 f9
                have K0 := Lib.hid (And.intro b0 (And.intro z0 (And.intro r0 HSW.out)))
                have e0 := K0.out.1.cell 0
                have e1 := K0.out.1.cell 1
                have e2 := K0.out.1.cell 2
                have e3 := K0.out.1.lt
                have z1 := K0.out.2.1.lt
                have zf0 := K0.out.2.1.frozen 0
                have zf1 := K0.out.2.1.frozen 1
                have zf2 := K0.out.2.1.frozen 2
                have zc0 := K0.out.2.1.cell 0
                have zc1 := K0.out.2.1.cell 1
                have zc2 := K0.out.2.1.cell 2
                simp only [List.getElem?_toArray, List.getElem?_cons_zero, List.getElem?_cons_succ] at e0 e1 e2 zc0 zc1 zc2
                clear b0 z0 r0
                go_wp2_with fail
                have P3 := Blk.put3 K0.out.2.1 (.int .i64 c.base.count) (Str c.base.hash) (.slice a9 (c.ls.length + 1) cap9)
                have SS : Step [b + 1 + 1] [b + 1 + 1] W9 (((W9.setCell ⟨b + 1 + 1, 0, none⟩ (.int .i64 c.base.count)).setCell ⟨b + 1 + 1, 1, none⟩ (Str c.base.hash)).setCell ⟨b + 1 + 1, 2, none⟩ (.slice a9 (c.ls.length + 1) cap9)) := (((Step.refl _ W9).setCell (.inl (by simp)) _).setCell (.inl (by simp)) _).setCell (.inl (by simp)) _
                have SW : Step [] [] w (((W9.setCell ⟨b + 1 + 1, 0, none⟩ (.int .i64 c.base.count)).setCell ⟨b + 1 + 1, 1, none⟩ (Str c.base.hash)).setCell ⟨b + 1 + 1, 2, none⟩ (.slice a9 (c.ls.length + 1) cap9)) := by
                  have hbw := HBW.out
                  exact ((K0.out.2.2.2.setCell (.inr (by simp; omega)) _).setCell (.inr (by simp; omega)) _).setCell (.inr (by simp; omega)) _
                refine bodyPost_ret (v := .tuple #[.agg #[.int .i64 c.base.count, Str c.base.hash, .slice a9 (c.ls.length + 1) cap9], .bool true]) ?_ rfl ⟨a9, cap9, ?_, ?_, SW, ?_⟩
                · simp [results, Try.results11, go_sem, P3]
                · rw [hYES.out, addL, if_pos hYES.out]; simp
                · rw [addL, if_pos hYES.out]
                  have := K0.out.2.2.1.step SS (fun g hg e => by simp at e; subst e; exact M9.out.2.2.2.2 _ HNB.out.2.2 hg)
                  rw [HX1.out] at this
                  simpa [lncs] using this
                · intro g hg
                  rcases M9.out.2.2.2.1.fresh g hg with h9 | h9
                  · simp at h9
                  · exact .inr h9
              · skip
                go_simp
                skip
                go_wp2_with fail
                refine hK.out _ _ (Lib.hid (hHeld3.out.alloc _)) (fun hHeld4 => ?_)
                clear hK K hHeld3
                try simp only [Act.put, List.setIfInBounds_toArray, List.set_cons_zero, List.set_cons_succ, List.getElem_toArray, List.getElem_cons_zero, List.getElem_cons_succ]
                refine wpAnyH_ready (rs := [3]) (by kernel_rfl) (by simp) ?_
                refine AllReadyH.cons rfl (fun K hK => ?_) AllReadyH.nil
                have hE : Row (((W7.drew).alloc (.cells #[] 32)).alloc (.cells (lnc x1).toArray 32)) 8 (some ⟨W7.heap.size, 0, none⟩) 0 0 [] := (Row.alloc (by have := Row.empty (W7.drew) 32 8; simpa using this) _); refine step_append_row rfl (.tmp 46) (.tmp 48) 27 27 rfl 32 i0 _ 8 88 Try.underlying27 HI.out.1 HI.out.2.1 HI.out.2.2.1 HI.out.2.2.2 rfl rfl hE rfl (Src.rd 27 32 Try.underlying27 (((K7.out.2.2.2.1.drew.alloc _).alloc _).rd) (lncs_one c.ls)) (by unfold maxLen; omega) (by omega) (by omega) ?_; intro a3 cap3 w3 hr3 st3; rw [Nat.zero_add, List.nil_append] at hr3; rw [Nat.zero_add]; have hne : ∀ j, j < W7.heap.size → j ∉ blks (some (⟨W7.heap.size, 0, none⟩ : Addr)) := (by intro j hj; simp [blks]; omega); have M3 : Hid (Row w3 8 a3 c.ls.length cap3 (lncs c.ls) ∧ Blk w3 b 29 #[.int .i64 c.base.count, Str c.base.hash, .slice (some (⟨g, off, none⟩ : Addr)) c.ls.length cap] ∧ Blk w3 (b + 1 + 1) 29 #[.int .i64 0, Str [], .slice none 0 0] ∧ Row w3 8 (some (⟨g, off, none⟩ : Addr)) c.ls.length cap (lncs c.ls) ∧ Step [] (blks a3) w w3 ∧ (∀ j, j < W7.heap.size → j ∉ blks a3) ∧ W7.heap.size ≤ w3.heap.size) := ⟨hr3, ((K7.out.1.drew.alloc _).alloc _).step st3 (hne _ HNB.out.1), ((K7.out.2.2.1.drew.alloc _).alloc _).step st3 (hne _ HNB.out.2.2), ((K7.out.2.2.2.1.drew.alloc _).alloc _).step st3 (fun j hj => hne _ (by have := K7.out.2.2.2.1.lt j hj; exact this)), (step_new (((K7.out.2.2.2.2.drew.alloc _).alloc _)) st3 (by have := HSZ.out; simp [blks]; omega)), fun j hj => st3.notin (by simp; omega) (hne j hj), by have := st3.size; simp at this; omega⟩; have hL : Blk (((W7.drew).alloc (.cells #[] 32)).alloc (.cells (lnc x1).toArray 32)) (W7.heap.size + 1) 32 (lnc x1).toArray := (by have := (Blk.new ((W7.drew).alloc (.cells #[] 32)) 32 (lnc x1).toArray); simpa using this); have ML := Lib.hid (hL.step st3 (by simp [blks])); clear hL; have p3 := M3.out.2.1.lt; have c3 := M3.out.2.1.cell 2; have f3 := M3.out.2.1.frozen 2; have KEEP3 := Lib.hid (hHeld4.out.step st3 (hne _ HNB.out.2.1)); clear hr3 st3 hne hE; simp only [List.getElem?_toArray, List.getElem?_cons_zero, List.getElem?_cons_succ] at c3
                refine hK.out _ _ (KEEP3) (fun hHeld5 => ?_)
                clear hK K hHeld4
                try simp only [Act.put, List.setIfInBounds_toArray, List.set_cons_zero, List.set_cons_succ, List.getElem_toArray, List.getElem_cons_zero, List.getElem_cons_succ]
                refine wpAnyH_ready (rs := [6]) (by kernel_rfl) (by simp) ?_
                refine AllReadyH.cons rfl (fun K hK => ?_) AllReadyH.nil
                refine step_append_row rfl (.tmp 49) (.tmp 51) 27 27 rfl 32 i0 _ 8 88 Try.underlying27 HI.out.1 HI.out.2.1 HI.out.2.2.1 HI.out.2.2.2 rfl rfl M3.out.1 rfl (Src.rd 27 32 Try.underlying27 (rd_blk ML.out 8 1 rfl) (lnc_one x1)) (by unfold maxLen; omega) (by omega) (by omega) ?_; intro a9 cap9 w9 hr9 st9; have M9 : Hid (Row w9 8 a9 (c.ls.length + 1) cap9 (lncs c.ls ++ lnc x1) ∧ Blk w9 b 29 #[.int .i64 c.base.count, Str c.base.hash, .slice (some (⟨g, off, none⟩ : Addr)) c.ls.length cap] ∧ Blk w9 (b + 1 + 1) 29 #[.int .i64 0, Str [], .slice none 0 0] ∧ Step [] (blks a9) w w9 ∧ (∀ j, j < W7.heap.size → j ∉ blks a9)) := ⟨hr9, M3.out.2.1.step st9 (M3.out.2.2.2.2.2.1 _ HNB.out.1), M3.out.2.2.1.step st9 (M3.out.2.2.2.2.2.1 _ HNB.out.2.2), M3.out.2.2.2.2.1.trans st9, fun j hj => st9.notin (by have := M3.out.2.2.2.2.2.2; simp; omega) (M3.out.2.2.2.2.2.1 j hj)⟩; have p9 := M9.out.2.1.lt; have c9 := M9.out.2.1.cell 2; have f9 := M9.out.2.1.frozen 2; have KEEP9 := Lib.hid (hHeld5.out.step st9 (M3.out.2.2.2.2.2.1 _ HNB.out.2.1)); clear hr9 st9; simp only [List.getElem?_toArray, List.getElem?_cons_zero, List.getElem?_cons_succ] at c9
                refine hK.out _ _ (KEEP9) (fun hHeld6 => ?_)
                clear hK K hHeld5
                try simp only [Act.put, List.setIfInBounds_toArray, List.set_cons_zero, List.set_cons_succ, List.getElem_toArray, List.getElem_cons_zero, List.getElem_cons_succ]
                refine wpAnyH_take (i := 7) (v := ?_) rfl (by kernel_rfl) (by kernel_rfl) (by kernel_rfl) (fun _ _ _ h => h) (Or.inl ⟨by rfl, ?_⟩) hHeld6 ?_
                rotate_left
                · intro w hSw
                  have hSw1 := hSw
                  clear hSw
                  try dsimp only at hSw1
                  go_simp
                  try (with_reducible rfl)
                try simp only [Act.put, List.setIfInBounds_toArray, List.set_cons_zero, List.set_cons_succ, List.getElem_toArray, List.getElem_cons_zero, List.getElem_cons_succ]
                refine wpAnyH_ready (rs := [8]) (by kernel_rfl) (by simp) ?_
                refine AllReadyH.cons rfl (fun K hK => ?_) AllReadyH.nil
                go_simp
                skip
                go_wp2_with fail
                refine hK.out _ _ (Lib.hid (hHeld6.out.far (by simp) _)) (fun hHeld7 => ?_)
                clear hK K hHeld6
                try simp only [Act.put, List.setIfInBounds_toArray, List.set_cons_zero, List.set_cons_succ, List.getElem_toArray, List.getElem_cons_zero, List.getElem_cons_succ]
                refine wpAnyH_done (by kernel_rfl) ?_ _
                obtain ⟨W9, hW9⟩ : ∃ W9, W9 = w9.setCell ⟨b, 2, none⟩ (.slice a9 (c.ls.length + 1) cap9) := ⟨_, rfl⟩
                rw [← hW9]
                have b0 : Blk W9 b 29 #[.int .i64 c.base.count, Str c.base.hash, .slice a9 (c.ls.length + 1) cap9] := by rw [hW9]; simpa using M9.out.2.1.set 2 (.slice a9 (c.ls.length + 1) cap9)
                have z0 : Blk W9 (b + 1 + 1) 29 #[.int .i64 0, Str [], .slice none 0 0] := by rw [hW9]; exact M9.out.2.2.1.far (by simp; omega) _
                have st9 : Step [b] [b] w9 W9 := by rw [hW9]; exact (Step.refl _ w9).setCell (.inl (by simp)) _
                have r0 := M9.out.1.step st9 (fun g hg e => by simp at e; subst e; exact M9.out.2.2.2.2 _ HNB.out.1 hg)
                have HSW : Hid (Step [] [] w W9) := by rw [hW9]; exact (M9.out.2.2.2.1.setCell (.inr (by rw [HBW.out]; exact Nat.le_refl _)) _).drop (by simp)
                clear hW9 st9 hp c2 f2 p3 c3 f3 p9 c9 f9
                have K0 := Lib.hid (And.intro b0 (And.intro z0 (And.intro r0 HSW.out)))
                have e0 := K0.out.1.cell 0
                have e1 := K0.out.1.cell 1
                have e2 := K0.out.1.cell 2
                have e3 := K0.out.1.lt
                have z1 := K0.out.2.1.lt
                have zf0 := K0.out.2.1.frozen 0
                have zf1 := K0.out.2.1.frozen 1
                have zf2 := K0.out.2.1.frozen 2
                have zc0 := K0.out.2.1.cell 0
                have zc1 := K0.out.2.1.cell 1
                have zc2 := K0.out.2.1.cell 2
                simp only [List.getElem?_toArray, List.getElem?_cons_zero, List.getElem?_cons_succ] at e0 e1 e2 zc0 zc1 zc2
                clear b0 z0 r0
                go_wp2_with fail
                have P3 := Blk.put3 K0.out.2.1 (.int .i64 c.base.count) (Str c.base.hash) (.slice a9 (c.ls.length + 1) cap9)
                have SS : Step [b + 1 + 1] [b + 1 + 1] W9 (((W9.setCell ⟨b + 1 + 1, 0, none⟩ (.int .i64 c.base.count)).setCell ⟨b + 1 + 1, 1, none⟩ (Str c.base.hash)).setCell ⟨b + 1 + 1, 2, none⟩ (.slice a9 (c.ls.length + 1) cap9)) := (((Step.refl _ W9).setCell (.inl (by simp)) _).setCell (.inl (by simp)) _).setCell (.inl (by simp)) _
                have SW : Step [] [] w (((W9.setCell ⟨b + 1 + 1, 0, none⟩ (.int .i64 c.base.count)).setCell ⟨b + 1 + 1, 1, none⟩ (Str c.base.hash)).setCell ⟨b + 1 + 1, 2, none⟩ (.slice a9 (c.ls.length + 1) cap9)) := by
                  have hbw := HBW.out
                  exact ((K0.out.2.2.2.setCell (.inr (by simp; omega)) _).setCell (.inr (by simp; omega)) _).setCell (.inr (by simp; omega)) _
                refine bodyPost_ret (v := .tuple #[.agg #[.int .i64 c.base.count, Str c.base.hash, .slice a9 (c.ls.length + 1) cap9], .bool true]) ?_ rfl ⟨a9, cap9, ?_, ?_, SW, ?_⟩
                · simp [results, Try.results11, go_sem, P3]
                · rw [hYES.out, addL, if_pos hYES.out]; simp
                · rw [addL, if_pos hYES.out]
                  have := K0.out.2.2.1.step SS (fun g hg e => by simp at e; subst e; exact M9.out.2.2.2.2 _ HNB.out.2.2 hg)
                  rw [HX1.out] at this
                  simpa [lncs] using this
                · intro g hg
                  rcases M9.out.2.2.2.1.fresh g hg with h9 | h9
                  · simp at h9
                  · exact .inr h9
            · skip
              go_simp
              skip
              go_wp2_with fail
              refine hK.out _ _ (Lib.hid (hHeld2.out.alloc _)) (fun hHeld3 => ?_)
              clear hK K hHeld2
              try simp only [Act.put, List.setIfInBounds_toArray, List.set_cons_zero, List.set_cons_succ, List.getElem_toArray, List.getElem_cons_zero, List.getElem_cons_succ]
              refine wpAnyH_ready (rs := [0]) (by kernel_rfl) (by simp) ?_
              refine AllReadyH.cons rfl (fun K hK => ?_) AllReadyH.nil
              go_simp
              skip
              go_wp2_with fail
              refine hK.out _ _ (Lib.hid (hHeld3.out.alloc _)) (fun hHeld4 => ?_)
              clear hK K hHeld3
              try simp only [Act.put, List.setIfInBounds_toArray, List.set_cons_zero, List.set_cons_succ, List.getElem_toArray, List.getElem_cons_zero, List.getElem_cons_succ]
              refine wpAnyH_ready (rs := [3]) (by kernel_rfl) (by simp) ?_
              refine AllReadyH.cons rfl (fun K hK => ?_) AllReadyH.nil
              have hE : Row (((W7.drew).alloc (.cells (lnc x1).toArray 32)).alloc (.cells #[] 32)) 8 (some ⟨W7.heap.size + 1, 0, none⟩) 0 0 [] := (by have := Row.empty ((W7.drew).alloc (.cells (lnc x1).toArray 32)) 32 8; simpa using this); refine step_append_row rfl (.tmp 46) (.tmp 48) 27 27 rfl 32 i0 _ 8 88 Try.underlying27 HI.out.1 HI.out.2.1 HI.out.2.2.1 HI.out.2.2.2 rfl rfl hE rfl (Src.rd 27 32 Try.underlying27 (((K7.out.2.2.2.1.drew.alloc _).alloc _).rd) (lncs_one c.ls)) (by unfold maxLen; omega) (by omega) (by omega) ?_; intro a3 cap3 w3 hr3 st3; rw [Nat.zero_add, List.nil_append] at hr3; rw [Nat.zero_add]; have hne : ∀ j, j < W7.heap.size → j ∉ blks (some (⟨W7.heap.size + 1, 0, none⟩ : Addr)) := (by intro j hj; simp [blks]; omega); have M3 : Hid (Row w3 8 a3 c.ls.length cap3 (lncs c.ls) ∧ Blk w3 b 29 #[.int .i64 c.base.count, Str c.base.hash, .slice (some (⟨g, off, none⟩ : Addr)) c.ls.length cap] ∧ Blk w3 (b + 1 + 1) 29 #[.int .i64 0, Str [], .slice none 0 0] ∧ Row w3 8 (some (⟨g, off, none⟩ : Addr)) c.ls.length cap (lncs c.ls) ∧ Step [] (blks a3) w w3 ∧ (∀ j, j < W7.heap.size → j ∉ blks a3) ∧ W7.heap.size ≤ w3.heap.size) := ⟨hr3, ((K7.out.1.drew.alloc _).alloc _).step st3 (hne _ HNB.out.1), ((K7.out.2.2.1.drew.alloc _).alloc _).step st3 (hne _ HNB.out.2.2), ((K7.out.2.2.2.1.drew.alloc _).alloc _).step st3 (fun j hj => hne _ (by have := K7.out.2.2.2.1.lt j hj; exact this)), (step_new (((K7.out.2.2.2.2.drew.alloc _).alloc _)) st3 (by have := HSZ.out; simp [blks]; omega)), fun j hj => st3.notin (by simp; omega) (hne j hj), by have := st3.size; simp at this; omega⟩; have hL : Blk (((W7.drew).alloc (.cells (lnc x1).toArray 32)).alloc (.cells #[] 32)) (W7.heap.size) 32 (lnc x1).toArray := ((Blk.new (W7.drew) 32 (lnc x1).toArray).alloc _); have ML := Lib.hid (hL.step st3 (by simp [blks])); clear hL; have p3 := M3.out.2.1.lt; have c3 := M3.out.2.1.cell 2; have f3 := M3.out.2.1.frozen 2; have KEEP3 := Lib.hid (hHeld4.out.step st3 (hne _ HNB.out.2.1)); clear hr3 st3 hne hE; simp only [List.getElem?_toArray, List.getElem?_cons_zero, List.getElem?_cons_succ] at c3
              refine hK.out _ _ (KEEP3) (fun hHeld5 => ?_)
              clear hK K hHeld4
              try simp only [Act.put, List.setIfInBounds_toArray, List.set_cons_zero, List.set_cons_succ, List.getElem_toArray, List.getElem_cons_zero, List.getElem_cons_succ]
              refine wpAnyH_ready (rs := [6]) (by kernel_rfl) (by simp) ?_
              refine AllReadyH.cons rfl (fun K hK => ?_) AllReadyH.nil
              refine step_append_row rfl (.tmp 49) (.tmp 51) 27 27 rfl 32 i0 _ 8 88 Try.underlying27 HI.out.1 HI.out.2.1 HI.out.2.2.1 HI.out.2.2.2 rfl rfl M3.out.1 rfl (Src.rd 27 32 Try.underlying27 (rd_blk ML.out 8 1 rfl) (lnc_one x1)) (by unfold maxLen; omega) (by omega) (by omega) ?_; intro a9 cap9 w9 hr9 st9; have M9 : Hid (Row w9 8 a9 (c.ls.length + 1) cap9 (lncs c.ls ++ lnc x1) ∧ Blk w9 b 29 #[.int .i64 c.base.count, Str c.base.hash, .slice (some (⟨g, off, none⟩ : Addr)) c.ls.length cap] ∧ Blk w9 (b + 1 + 1) 29 #[.int .i64 0, Str [], .slice none 0 0] ∧ Step [] (blks a9) w w9 ∧ (∀ j, j < W7.heap.size → j ∉ blks a9)) := ⟨hr9, M3.out.2.1.step st9 (M3.out.2.2.2.2.2.1 _ HNB.out.1), M3.out.2.2.1.step st9 (M3.out.2.2.2.2.2.1 _ HNB.out.2.2), M3.out.2.2.2.2.1.trans st9, fun j hj => st9.notin (by have := M3.out.2.2.2.2.2.2; simp; omega) (M3.out.2.2.2.2.2.1 j hj)⟩; have p9 := M9.out.2.1.lt; have c9 := M9.out.2.1.cell 2; have f9 := M9.out.2.1.frozen 2; have KEEP9 := Lib.hid (hHeld5.out.step st9 (M3.out.2.2.2.2.2.1 _ HNB.out.2.1)); clear hr9 st9; simp only [List.getElem?_toArray, List.getElem?_cons_zero, List.getElem?_cons_succ] at c9
              refine hK.out _ _ (KEEP9) (fun hHeld6 => ?_)
              clear hK K hHeld5
              try simp only [Act.put, List.setIfInBounds_toArray, List.set_cons_zero, List.set_cons_succ, List.getElem_toArray, List.getElem_cons_zero, List.getElem_cons_succ]
              refine wpAnyH_take (i := 7) (v := ?_) rfl (by kernel_rfl) (by kernel_rfl) (by kernel_rfl) (fun _ _ _ h => h) (Or.inl ⟨by rfl, ?_⟩) hHeld6 ?_
              rotate_left
              · intro w hSw
                have hSw1 := hSw
                clear hSw
                try dsimp only at hSw1
                go_simp
                try (with_reducible rfl)
              try simp only [Act.put, List.setIfInBounds_toArray, List.set_cons_zero, List.set_cons_succ, List.getElem_toArray, List.getElem_cons_zero, List.getElem_cons_succ]
              refine wpAnyH_ready (rs := [8]) (by kernel_rfl) (by simp) ?_
              refine AllReadyH.cons rfl (fun K hK => ?_) AllReadyH.nil
              go_simp
              skip
              go_wp2_with fail
              refine hK.out _ _ (Lib.hid (hHeld6.out.far (by simp) _)) (fun hHeld7 => ?_)
              clear hK K hHeld6
              try simp only [Act.put, List.setIfInBounds_toArray, List.set_cons_zero, List.set_cons_succ, List.getElem_toArray, List.getElem_cons_zero, List.getElem_cons_succ]
              refine wpAnyH_done (by kernel_rfl) ?_ _
              obtain ⟨W9, hW9⟩ : ∃ W9, W9 = w9.setCell ⟨b, 2, none⟩ (.slice a9 (c.ls.length + 1) cap9) := ⟨_, rfl⟩
              rw [← hW9]
              have b0 : Blk W9 b 29 #[.int .i64 c.base.count, Str c.base.hash, .slice a9 (c.ls.length + 1) cap9] := by rw [hW9]; simpa using M9.out.2.1.set 2 (.slice a9 (c.ls.length + 1) cap9)
              have z0 : Blk W9 (b + 1 + 1) 29 #[.int .i64 0, Str [], .slice none 0 0] := by rw [hW9]; exact M9.out.2.2.1.far (by simp; omega) _
              have st9 : Step [b] [b] w9 W9 := by rw [hW9]; exact (Step.refl _ w9).setCell (.inl (by simp)) _
              have r0 := M9.out.1.step st9 (fun g hg e => by simp at e; subst e; exact M9.out.2.2.2.2 _ HNB.out.1 hg)
              have HSW : Hid (Step [] [] w W9) := by rw [hW9]; exact (M9.out.2.2.2.1.setCell (.inr (by rw [HBW.out]; exact Nat.le_refl _)) _).drop (by simp)
              clear hW9 st9 hp c2 f2 p3 c3 f3 p9 c9 f9
              have K0 := Lib.hid (And.intro b0 (And.intro z0 (And.intro r0 HSW.out)))
              have e0 := K0.out.1.cell 0
              have e1 := K0.out.1.cell 1
              have e2 := K0.out.1.cell 2
              have e3 := K0.out.1.lt
              have z1 := K0.out.2.1.lt
              have zf0 := K0.out.2.1.frozen 0
              have zf1 := K0.out.2.1.frozen 1
              have zf2 := K0.out.2.1.frozen 2
              have zc0 := K0.out.2.1.cell 0
              have zc1 := K0.out.2.1.cell 1
              have zc2 := K0.out.2.1.cell 2
              simp only [List.getElem?_toArray, List.getElem?_cons_zero, List.getElem?_cons_succ] at e0 e1 e2 zc0 zc1 zc2
              clear b0 z0 r0
              go_wp2_with fail
              have P3 := Blk.put3 K0.out.2.1 (.int .i64 c.base.count) (Str c.base.hash) (.slice a9 (c.ls.length + 1) cap9)
              have SS : Step [b + 1 + 1] [b + 1 + 1] W9 (((W9.setCell ⟨b + 1 + 1, 0, none⟩ (.int .i64 c.base.count)).setCell ⟨b + 1 + 1, 1, none⟩ (Str c.base.hash)).setCell ⟨b + 1 + 1, 2, none⟩ (.slice a9 (c.ls.length + 1) cap9)) := (((Step.refl _ W9).setCell (.inl (by simp)) _).setCell (.inl (by simp)) _).setCell (.inl (by simp)) _
              have SW : Step [] [] w (((W9.setCell ⟨b + 1 + 1, 0, none⟩ (.int .i64 c.base.count)).setCell ⟨b + 1 + 1, 1, none⟩ (Str c.base.hash)).setCell ⟨b + 1 + 1, 2, none⟩ (.slice a9 (c.ls.length + 1) cap9)) := by
                have hbw := HBW.out
                exact ((K0.out.2.2.2.setCell (.inr (by simp; omega)) _).setCell (.inr (by simp; omega)) _).setCell (.inr (by simp; omega)) _
              refine bodyPost_ret (v := .tuple #[.agg #[.int .i64 c.base.count, Str c.base.hash, .slice a9 (c.ls.length + 1) cap9], .bool true]) ?_ rfl ⟨a9, cap9, ?_, ?_, SW, ?_⟩
              · simp [results, Try.results11, go_sem, P3]
              · rw [hYES.out, addL, if_pos hYES.out]; simp
              · rw [addL, if_pos hYES.out]
                have := K0.out.2.2.1.step SS (fun g hg e => by simp at e; subst e; exact M9.out.2.2.2.2 _ HNB.out.2.2 hg)
                rw [HX1.out] at this
                simpa [lncs] using this
              · intro g hg
                rcases M9.out.2.2.2.1.fresh g hg with h9 | h9
                · simp at h9
                · exact .inr h9
          · skip
            go_simp
            skip
            go_wp2_with fail
            refine hK.out _ _ (Lib.hid (hHeld.out.alloc _)) (fun hHeld2 => ?_)
            clear hK K hHeld
            try simp only [Act.put, List.setIfInBounds_toArray, List.set_cons_zero, List.set_cons_succ, List.getElem_toArray, List.getElem_cons_zero, List.getElem_cons_succ]
            refine wpAnyH_ready (rs := [0, 2]) (by kernel_rfl) (by simp) ?_
            refine AllReadyH.cons rfl (fun K hK => ?_) (AllReadyH.cons rfl (fun K hK => ?_) (AllReadyH.nil))
            · skip
              go_simp
              skip
              go_wp2_with fail
              refine hK.out _ _ (Lib.hid (hHeld2.out.alloc _)) (fun hHeld3 => ?_)
              clear hK K hHeld2
              try simp only [Act.put, List.setIfInBounds_toArray, List.set_cons_zero, List.set_cons_succ, List.getElem_toArray, List.getElem_cons_zero, List.getElem_cons_succ]
              refine wpAnyH_ready (rs := [2]) (by kernel_rfl) (by simp) ?_
              refine AllReadyH.cons rfl (fun K hK => ?_) AllReadyH.nil
              go_simp
              skip
              go_wp2_with fail
              refine hK.out _ _ (hHeld3) (fun hHeld4 => ?_)
              clear hK K hHeld3
              try simp only [Act.put, List.setIfInBounds_toArray, List.set_cons_zero, List.set_cons_succ, List.getElem_toArray, List.getElem_cons_zero, List.getElem_cons_succ]
              refine wpAnyH_ready (rs := [3]) (by kernel_rfl) (by simp) ?_
              refine AllReadyH.cons rfl (fun K hK => ?_) AllReadyH.nil
              have hE : Row (((W7.drew).alloc (.cells (lnc x1).toArray 32)).alloc (.cells #[] 32)) 8 (some ⟨W7.heap.size + 1, 0, none⟩) 0 0 [] := (by have := Row.empty ((W7.drew).alloc (.cells (lnc x1).toArray 32)) 32 8; simpa using this); refine step_append_row rfl (.tmp 46) (.tmp 48) 27 27 rfl 32 i0 _ 8 88 Try.underlying27 HI.out.1 HI.out.2.1 HI.out.2.2.1 HI.out.2.2.2 rfl rfl hE rfl (Src.rd 27 32 Try.underlying27 (((K7.out.2.2.2.1.drew.alloc _).alloc _).rd) (lncs_one c.ls)) (by unfold maxLen; omega) (by omega) (by omega) ?_; intro a3 cap3 w3 hr3 st3; rw [Nat.zero_add, List.nil_append] at hr3; rw [Nat.zero_add]; have hne : ∀ j, j < W7.heap.size → j ∉ blks (some (⟨W7.heap.size + 1, 0, none⟩ : Addr)) := (by intro j hj; simp [blks]; omega); have M3 : Hid (Row w3 8 a3 c.ls.length cap3 (lncs c.ls) ∧ Blk w3 b 29 #[.int .i64 c.base.count, Str c.base.hash, .slice (some (⟨g, off, none⟩ : Addr)) c.ls.length cap] ∧ Blk w3 (b + 1 + 1) 29 #[.int .i64 0, Str [], .slice none 0 0] ∧ Row w3 8 (some (⟨g, off, none⟩ : Addr)) c.ls.length cap (lncs c.ls) ∧ Step [] (blks a3) w w3 ∧ (∀ j, j < W7.heap.size → j ∉ blks a3) ∧ W7.heap.size ≤ w3.heap.size) := ⟨hr3, ((K7.out.1.drew.alloc _).alloc _).step st3 (hne _ HNB.out.1), ((K7.out.2.2.1.drew.alloc _).alloc _).step st3 (hne _ HNB.out.2.2), ((K7.out.2.2.2.1.drew.alloc _).alloc _).step st3 (fun j hj => hne _ (by have := K7.out.2.2.2.1.lt j hj; exact this)), (step_new (((K7.out.2.2.2.2.drew.alloc _).alloc _)) st3 (by have := HSZ.out; simp [blks]; omega)), fun j hj => st3.notin (by simp; omega) (hne j hj), by have := st3.size; simp at this; omega⟩; have hL : Blk (((W7.drew).alloc (.cells (lnc x1).toArray 32)).alloc (.cells #[] 32)) (W7.heap.size) 32 (lnc x1).toArray := ((Blk.new (W7.drew) 32 (lnc x1).toArray).alloc _); have ML := Lib.hid (hL.step st3 (by simp [blks])); clear hL; have p3 := M3.out.2.1.lt; have c3 := M3.out.2.1.cell 2; have f3 := M3.out.2.1.frozen 2; have KEEP3 := Lib.hid (hHeld4.out.step st3 (hne _ HNB.out.2.1)); clear hr3 st3 hne hE; simp only [List.getElem?_toArray, List.getElem?_cons_zero, List.getElem?_cons_succ] at c3
              refine hK.out _ _ (KEEP3) (fun hHeld5 => ?_)
              clear hK K hHeld4
              try simp only [Act.put, List.setIfInBounds_toArray, List.set_cons_zero, List.set_cons_succ, List.getElem_toArray, List.getElem_cons_zero, List.getElem_cons_succ]
              refine wpAnyH_ready (rs := [6]) (by kernel_rfl) (by simp) ?_
              refine AllReadyH.cons rfl (fun K hK => ?_) AllReadyH.nil
              refine step_append_row rfl (.tmp 49) (.tmp 51) 27 27 rfl 32 i0 _ 8 88 Try.underlying27 HI.out.1 HI.out.2.1 HI.out.2.2.1 HI.out.2.2.2 rfl rfl M3.out.1 rfl (Src.rd 27 32 Try.underlying27 (rd_blk ML.out 8 1 rfl) (lnc_one x1)) (by unfold maxLen; omega) (by omega) (by omega) ?_; intro a9 cap9 w9 hr9 st9; have M9 : Hid (Row w9 8 a9 (c.ls.length + 1) cap9 (lncs c.ls ++ lnc x1) ∧ Blk w9 b 29 #[.int .i64 c.base.count, Str c.base.hash, .slice (some (⟨g, off, none⟩ : Addr)) c.ls.length cap] ∧ Blk w9 (b + 1 + 1) 29 #[.int .i64 0, Str [], .slice none 0 0] ∧ Step [] (blks a9) w w9 ∧ (∀ j, j < W7.heap.size → j ∉ blks a9)) := ⟨hr9, M3.out.2.1.step st9 (M3.out.2.2.2.2.2.1 _ HNB.out.1), M3.out.2.2.1.step st9 (M3.out.2.2.2.2.2.1 _ HNB.out.2.2), M3.out.2.2.2.2.1.trans st9, fun j hj => st9.notin (by have := M3.out.2.2.2.2.2.2; simp; omega) (M3.out.2.2.2.2.2.1 j hj)⟩; have p9 := M9.out.2.1.lt; have c9 := M9.out.2.1.cell 2; have f9 := M9.out.2.1.frozen 2; have KEEP9 := Lib.hid (hHeld5.out.step st9 (M3.out.2.2.2.2.2.1 _ HNB.out.2.1)); clear hr9 st9; simp only [List.getElem?_toArray, List.getElem?_cons_zero, List.getElem?_cons_succ] at c9
              refine hK.out _ _ (KEEP9) (fun hHeld6 => ?_)
              clear hK K hHeld5
              try simp only [Act.put, List.setIfInBounds_toArray, List.set_cons_zero, List.set_cons_succ, List.getElem_toArray, List.getElem_cons_zero, List.getElem_cons_succ]
              refine wpAnyH_take (i := 7) (v := ?_) rfl (by kernel_rfl) (by kernel_rfl) (by kernel_rfl) (fun _ _ _ h => h) (Or.inl ⟨by rfl, ?_⟩) hHeld6 ?_
              rotate_left
              · intro w hSw
                have hSw1 := hSw
                clear hSw
                try dsimp only at hSw1
                go_simp
                try (with_reducible rfl)
              try simp only [Act.put, List.setIfInBounds_toArray, List.set_cons_zero, List.set_cons_succ, List.getElem_toArray, List.getElem_cons_zero, List.getElem_cons_succ]
              refine wpAnyH_ready (rs := [8]) (by kernel_rfl) (by simp) ?_
              refine AllReadyH.cons rfl (fun K hK => ?_) AllReadyH.nil
              go_simp
              skip
              go_wp2_with fail
              refine hK.out _ _ (Lib.hid (hHeld6.out.far (by simp) _)) (fun hHeld7 => ?_)
              clear hK K hHeld6
              try simp only [Act.put, List.setIfInBounds_toArray, List.set_cons_zero, List.set_cons_succ, List.getElem_toArray, List.getElem_cons_zero, List.getElem_cons_succ]
              refine wpAnyH_done (by kernel_rfl) ?_ _
              obtain ⟨W9, hW9⟩ : ∃ W9, W9 = w9.setCell ⟨b, 2, none⟩ (.slice a9 (c.ls.length + 1) cap9) := ⟨_, rfl⟩
              rw [← hW9]
              have b0 : Blk W9 b 29 #[.int .i64 c.base.count, Str c.base.hash, .slice a9 (c.ls.length + 1) cap9] := by rw [hW9]; simpa using M9.out.2.1.set 2 (.slice a9 (c.ls.length + 1) cap9)
              have z0 : Blk W9 (b + 1 + 1) 29 #[.int .i64 0, Str [], .slice none 0 0] := by rw [hW9]; exact M9.out.2.2.1.far (by simp; omega) _
              have st9 : Step [b] [b] w9 W9 := by rw [hW9]; exact (Step.refl _ w9).setCell (.inl (by simp)) _
              have r0 := M9.out.1.step st9 (fun g hg e => by simp at e; subst e; exact M9.out.2.2.2.2 _ HNB.out.1 hg)
              have HSW : Hid (Step [] [] w W9) := by rw [hW9]; exact (M9.out.2.2.2.1.setCell (.inr (by rw [HBW.out]; exact Nat.le_refl _)) _).drop (by simp)
              clear hW9 st9 hp c2 f2 p3 c3 f3 p9 c9 f9
              have K0 := Lib.hid (And.intro b0 (And.intro z0 (And.intro r0 HSW.out)))
              have e0 := K0.out.1.cell 0
              have e1 := K0.out.1.cell 1
              have e2 := K0.out.1.cell 2
              have e3 := K0.out.1.lt
              have z1 := K0.out.2.1.lt
              have zf0 := K0.out.2.1.frozen 0
              have zf1 := K0.out.2.1.frozen 1
              have zf2 := K0.out.2.1.frozen 2
              have zc0 := K0.out.2.1.cell 0
              have zc1 := K0.out.2.1.cell 1
              have zc2 := K0.out.2.1.cell 2
              simp only [List.getElem?_toArray, List.getElem?_cons_zero, List.getElem?_cons_succ] at e0 e1 e2 zc0 zc1 zc2
              clear b0 z0 r0
              go_wp2_with fail
              have P3 := Blk.put3 K0.out.2.1 (.int .i64 c.base.count) (Str c.base.hash) (.slice a9 (c.ls.length + 1) cap9)
              have SS : Step [b + 1 + 1] [b + 1 + 1] W9 (((W9.setCell ⟨b + 1 + 1, 0, none⟩ (.int .i64 c.base.count)).setCell ⟨b + 1 + 1, 1, none⟩ (Str c.base.hash)).setCell ⟨b + 1 + 1, 2, none⟩ (.slice a9 (c.ls.length + 1) cap9)) := (((Step.refl _ W9).setCell (.inl (by simp)) _).setCell (.inl (by simp)) _).setCell (.inl (by simp)) _
              have SW : Step [] [] w (((W9.setCell ⟨b + 1 + 1, 0, none⟩ (.int .i64 c.base.count)).setCell ⟨b + 1 + 1, 1, none⟩ (Str c.base.hash)).setCell ⟨b + 1 + 1, 2, none⟩ (.slice a9 (c.ls.length + 1) cap9)) := by
                have hbw := HBW.out
                exact ((K0.out.2.2.2.setCell (.inr (by simp; omega)) _).setCell (.inr (by simp; omega)) _).setCell (.inr (by simp; omega)) _
              refine bodyPost_ret (v := .tuple #[.agg #[.int .i64 c.base.count, Str c.base.hash, .slice a9 (c.ls.length + 1) cap9], .bool true]) ?_ rfl ⟨a9, cap9, ?_, ?_, SW, ?_⟩
              · simp [results, Try.results11, go_sem, P3]
              · rw [hYES.out, addL, if_pos hYES.out]; simp
              · rw [addL, if_pos hYES.out]
                have := K0.out.2.2.1.step SS (fun g hg e => by simp at e; subst e; exact M9.out.2.2.2.2 _ HNB.out.2.2 hg)
                rw [HX1.out] at this
                simpa [lncs] using this
              · intro g hg
                rcases M9.out.2.2.2.1.fresh g hg with h9 | h9
                · simp at h9
                · exact .inr h9
            · skip
              go_simp
              skip
              go_wp2_with fail
              refine hK.out _ _ (hHeld2) (fun hHeld3 => ?_)
              clear hK K hHeld2
              try simp only [Act.put, List.setIfInBounds_toArray, List.set_cons_zero, List.set_cons_succ, List.getElem_toArray, List.getElem_cons_zero, List.getElem_cons_succ]
              refine wpAnyH_ready (rs := [0]) (by kernel_rfl) (by simp) ?_
              refine AllReadyH.cons rfl (fun K hK => ?_) AllReadyH.nil
              go_simp
              skip
              go_wp2_with fail
              refine hK.out _ _ (Lib.hid (hHeld3.out.alloc _)) (fun hHeld4 => ?_)
              clear hK K hHeld3
              try simp only [Act.put, List.setIfInBounds_toArray, List.set_cons_zero, List.set_cons_succ, List.getElem_toArray, List.getElem_cons_zero, List.getElem_cons_succ]
              refine wpAnyH_ready (rs := [3]) (by kernel_rfl) (by simp) ?_
              refine AllReadyH.cons rfl (fun K hK => ?_) AllReadyH.nil
              have hE : Row (((W7.drew).alloc (.cells (lnc x1).toArray 32)).alloc (.cells #[] 32)) 8 (some ⟨W7.heap.size + 1, 0, none⟩) 0 0 [] := (by have := Row.empty ((W7.drew).alloc (.cells (lnc x1).toArray 32)) 32 8; simpa using this); refine step_append_row rfl (.tmp 46) (.tmp 48) 27 27 rfl 32 i0 _ 8 88 Try.underlying27 HI.out.1 HI.out.2.1 HI.out.2.2.1 HI.out.2.2.2 rfl rfl hE rfl (Src.rd 27 32 Try.underlying27 (((K7.out.2.2.2.1.drew.alloc _).alloc _).rd) (lncs_one c.ls)) (by unfold maxLen; omega) (by omega) (by omega) ?_; intro a3 cap3 w3 hr3 st3; rw [Nat.zero_add, List.nil_append] at hr3; rw [Nat.zero_add]; have hne : ∀ j, j < W7.heap.size → j ∉ blks (some (⟨W7.heap.size + 1, 0, none⟩ : Addr)) := (by intro j hj; simp [blks]; omega); have M3 : Hid (Row w3 8 a3 c.ls.length cap3 (lncs c.ls) ∧ Blk w3 b 29 #[.int .i64 c.base.count, Str c.base.hash, .slice (some (⟨g, off, none⟩ : Addr)) c.ls.length cap] ∧ Blk w3 (b + 1 + 1) 29 #[.int .i64 0, Str [], .slice none 0 0] ∧ Row w3 8 (some (⟨g, off, none⟩ : Addr)) c.ls.length cap (lncs c.ls) ∧ Step [] (blks a3) w w3 ∧ (∀ j, j < W7.heap.size → j ∉ blks a3) ∧ W7.heap.size ≤ w3.heap.size) := ⟨hr3, ((K7.out.1.drew.alloc _).alloc _).step st3 (hne _ HNB.out.1), ((K7.out.2.2.1.drew.alloc _).alloc _).step st3 (hne _ HNB.out.2.2), ((K7.out.2.2.2.1.drew.alloc _).alloc _).step st3 (fun j hj => hne _ (by have := K7.out.2.2.2.1.lt j hj; exact this)), (step_new (((K7.out.2.2.2.2.drew.alloc _).alloc _)) st3 (by have := HSZ.out; simp [blks]; omega)), fun j hj => st3.notin (by simp; omega) (hne j hj), by have := st3.size; simp at this; omega⟩; have hL : Blk (((W7.drew).alloc (.cells (lnc x1).toArray 32)).alloc (.cells #[] 32)) (W7.heap.size) 32 (lnc x1).toArray := ((Blk.new (W7.drew) 32 (lnc x1).toArray).alloc _); have ML := Lib.hid (hL.step st3 (by simp [blks])); clear hL; have p3 := M3.out.2.1.lt; have c3 := M3.out.2.1.cell 2; have f3 := M3.out.2.1.frozen 2; have KEEP3 := Lib.hid (hHeld4.out.step st3 (hne _ HNB.out.2.1)); clear hr3 st3 hne hE; simp only [List.getElem?_toArray, List.getElem?_cons_zero, List.getElem?_cons_succ] at c3
              refine hK.out _ _ (KEEP3) (fun hHeld5 => ?_)
              clear hK K hHeld4
              try simp only [Act.put, List.setIfInBounds_toArray, List.set_cons_zero, List.set_cons_succ, List.getElem_toArray, List.getElem_cons_zero, List.getElem_cons_succ]
              refine wpAnyH_ready (rs := [6]) (by kernel_rfl) (by simp) ?_
              refine AllReadyH.cons rfl (fun K hK => ?_) AllReadyH.nil
              refine step_append_row rfl (.tmp 49) (.tmp 51) 27 27 rfl 32 i0 _ 8 88 Try.underlying27 HI.out.1 HI.out.2.1 HI.out.2.2.1 HI.out.2.2.2 rfl rfl M3.out.1 rfl (Src.rd 27 32 Try.underlying27 (rd_blk ML.out 8 1 rfl) (lnc_one x1)) (by unfold maxLen; omega) (by omega) (by omega) ?_; intro a9 cap9 w9 hr9 st9; have M9 : Hid (Row w9 8 a9 (c.ls.length + 1) cap9 (lncs c.ls ++ lnc x1) ∧ Blk w9 b 29 #[.int .i64 c.base.count, Str c.base.hash, .slice (some (⟨g, off, none⟩ : Addr)) c.ls.length cap] ∧ Blk w9 (b + 1 + 1) 29 #[.int .i64 0, Str [], .slice none 0 0] ∧ Step [] (blks a9) w w9 ∧ (∀ j, j < W7.heap.size → j ∉ blks a9)) := ⟨hr9, M3.out.2.1.step st9 (M3.out.2.2.2.2.2.1 _ HNB.out.1), M3.out.2.2.1.step st9 (M3.out.2.2.2.2.2.1 _ HNB.out.2.2), M3.out.2.2.2.2.1.trans st9, fun j hj => st9.notin (by have := M3.out.2.2.2.2.2.2; simp; omega) (M3.out.2.2.2.2.2.1 j hj)⟩; have p9 := M9.out.2.1.lt; have c9 := M9.out.2.1.cell 2; have f9 := M9.out.2.1.frozen 2; have KEEP9 := Lib.hid (hHeld5.out.step st9 (M3.out.2.2.2.2.2.1 _ HNB.out.2.1)); clear hr9 st9; simp only [List.getElem?_toArray, List.getElem?_cons_zero, List.getElem?_cons_succ] at c9
              refine hK.out _ _ (KEEP9) (fun hHeld6 => ?_)
              clear hK K hHeld5
              try simp only [Act.put, List.setIfInBounds_toArray, List.set_cons_zero, List.set_cons_succ, List.getElem_toArray, List.getElem_cons_zero, List.getElem_cons_succ]
              refine wpAnyH_take (i := 7) (v := ?_) rfl (by kernel_rfl) (by kernel_rfl) (by kernel_rfl) (fun _ _ _ h => h) (Or.inl ⟨by rfl, ?_⟩) hHeld6 ?_
              rotate_left
              · intro w hSw
                have hSw1 := hSw
                clear hSw
                try dsimp only at hSw1
                go_simp
                try (with_reducible rfl)
              try simp only [Act.put, List.setIfInBounds_toArray, List.set_cons_zero, List.set_cons_succ, List.getElem_toArray, List.getElem_cons_zero, List.getElem_cons_succ]
              refine wpAnyH_ready (rs := [8]) (by kernel_rfl) (by simp) ?_
              refine AllReadyH.cons rfl (fun K hK => ?_) AllReadyH.nil
              go_simp
              skip
              go_wp2_with fail
              refine hK.out _ _ (Lib.hid (hHeld6.out.far (by simp) _)) (fun hHeld7 => ?_)
              clear hK K hHeld6
              try simp only [Act.put, List.setIfInBounds_toArray, List.set_cons_zero, List.set_cons_succ, List.getElem_toArray, List.getElem_cons_zero, List.getElem_cons_succ]
              refine wpAnyH_done (by kernel_rfl) ?_ _
              obtain ⟨W9, hW9⟩ : ∃ W9, W9 = w9.setCell ⟨b, 2, none⟩ (.slice a9 (c.ls.length + 1) cap9) := ⟨_, rfl⟩
              rw [← hW9]
              have b0 : Blk W9 b 29 #[.int .i64 c.base.count, Str c.base.hash, .slice a9 (c.ls.length + 1) cap9] := by rw [hW9]; simpa using M9.out.2.1.set 2 (.slice a9 (c.ls.length + 1) cap9)
              have z0 : Blk W9 (b + 1 + 1) 29 #[.int .i64 0, Str [], .slice none 0 0] := by rw [hW9]; exact M9.out.2.2.1.far (by simp; omega) _
              have st9 : Step [b] [b] w9 W9 := by rw [hW9]; exact (Step.refl _ w9).setCell (.inl (by simp)) _
              have r0 := M9.out.1.step st9 (fun g hg e => by simp at e; subst e; exact M9.out.2.2.2.2 _ HNB.out.1 hg)
              have HSW : Hid (Step [] [] w W9) := by rw [hW9]; exact (M9.out.2.2.2.1.setCell (.inr (by rw [HBW.out]; exact Nat.le_refl _)) _).drop (by simp)
              clear hW9 st9 hp c2 f2 p3 c3 f3 p9 c9 f9
              have K0 := Lib.hid (And.intro b0 (And.intro z0 (And.intro r0 HSW.out)))
              have e0 := K0.out.1.cell 0
              have e1 := K0.out.1.cell 1
              have e2 := K0.out.1.cell 2
              have e3 := K0.out.1.lt
              have z1 := K0.out.2.1.lt
              have zf0 := K0.out.2.1.frozen 0
              have zf1 := K0.out.2.1.frozen 1
              have zf2 := K0.out.2.1.frozen 2
              have zc0 := K0.out.2.1.cell 0
              have zc1 := K0.out.2.1.cell 1
              have zc2 := K0.out.2.1.cell 2
              simp only [List.getElem?_toArray, List.getElem?_cons_zero, List.getElem?_cons_succ] at e0 e1 e2 zc0 zc1 zc2
              clear b0 z0 r0
              go_wp2_with fail
              have P3 := Blk.put3 K0.out.2.1 (.int .i64 c.base.count) (Str c.base.hash) (.slice a9 (c.ls.length + 1) cap9)
              have SS : Step [b + 1 + 1] [b + 1 + 1] W9 (((W9.setCell ⟨b + 1 + 1, 0, none⟩ (.int .i64 c.base.count)).setCell ⟨b + 1 + 1, 1, none⟩ (Str c.base.hash)).setCell ⟨b + 1 + 1, 2, none⟩ (.slice a9 (c.ls.length + 1) cap9)) := (((Step.refl _ W9).setCell (.inl (by simp)) _).setCell (.inl (by simp)) _).setCell (.inl (by simp)) _
              have SW : Step [] [] w (((W9.setCell ⟨b + 1 + 1, 0, none⟩ (.int .i64 c.base.count)).setCell ⟨b + 1 + 1, 1, none⟩ (Str c.base.hash)).setCell ⟨b + 1 + 1, 2, none⟩ (.slice a9 (c.ls.length + 1) cap9)) := by
                have hbw := HBW.out
                exact ((K0.out.2.2.2.setCell (.inr (by simp; omega)) _).setCell (.inr (by simp; omega)) _).setCell (.inr (by simp; omega)) _
              refine bodyPost_ret (v := .tuple #[.agg #[.int .i64 c.base.count, Str c.base.hash, .slice a9 (c.ls.length + 1) cap9], .bool true]) ?_ rfl ⟨a9, cap9, ?_, ?_, SW, ?_⟩
              · simp [results, Try.results11, go_sem, P3]
              · rw [hYES.out, addL, if_pos hYES.out]; simp
              · rw [addL, if_pos hYES.out]
                have := K0.out.2.2.1.step SS (fun g hg e => by simp at e; subst e; exact M9.out.2.2.2.2 _ HNB.out.2.2 hg)
                rw [HX1.out] at this
                simpa [lncs] using this
              · intro g hg
                rcases M9.out.2.2.2.1.fresh g hg with h9 | h9
                · simp at h9
                · exact .inr h9
end Go.Proofs.Ytdiacfbflbenoaa
