/-
 The reference's num, text, flag; its acts: the things of acts. Condition: at most 2^20 acts.
-/
import Derived.Test.YtjfaplmojpldhaaZGA
import Derived.Test.YtjfaplmojpldhaaZGB
import Derived.Test.YtjfaplmojpldhaaZReqD
import Derived.Test.YtjfaplmojpldhaaZGC
import Derived.Test.YtjfaplmojpldhaaZReqK
import Derived.Deep.DeepCutAuto
import Derived.Deep.CutBlock
namespace Go.Proofs.Ytjfaplmojpldhaa
open Go.RowKit
set_option linter.unusedSimpArgs false
set_option linter.unusedVariables false
set_option maxRecDepth 100000

theorem rnm_any (n : Int) (w : World) : Calls Try.prog 70 #[.int .i64 n] w fun e w' => e = .returned (.agg #[.int .i64 0, .int .i64 n, .string ⟨#[]⟩, .bool false]) ∧ Step [] [] w w' := by
 go_enter Try.func70, Try.ntmps70
 go_wp2_with fail
 refine bodyPost_ret (v := .agg #[.int .i64 0, .int .i64 n, .string ⟨#[]⟩, .bool false]) ?_ rfl ⟨rfl, (Step.refl [] w).alloc _⟩
 simp [results, Try.results70, go_sem]
theorem rtx_any (s : List UInt8) (w : World) : Calls Try.prog 72 #[Str s] w fun e w' => e = .returned (.agg #[.int .i64 1, .int .i64 0, .string ⟨s.toArray⟩, .bool false]) ∧ Step [] [] w w' := by
 go_enter Try.func72, Try.ntmps72
 go_wp2_with fail
 refine bodyPost_ret (v := .agg #[.int .i64 1, .int .i64 0, .string ⟨s.toArray⟩, .bool false]) ?_ rfl ⟨rfl, (Step.refl [] w).alloc _⟩
 simp [results, Try.results72, go_sem]
theorem rflg_any (b : Bool) (w : World) : Calls Try.prog 71 #[.bool b] w fun e w' => e = .returned (.agg #[.int .i64 2, .int .i64 0, .string ⟨#[]⟩, .bool b]) ∧ Step [] [] w w' := by
 go_enter Try.func71, Try.ntmps71
 go_wp2_with fail
 refine bodyPost_ret (v := .agg #[.int .i64 2, .int .i64 0, .string ⟨#[]⟩, .bool b]) ?_ rfl ⟨rfl, (Step.refl [] w).alloc _⟩
 simp [results, Try.results71, go_sem]
theorem itcs_app' (l m : List It) : itcs (l ++ m) = itcs l ++ itcs m := by simp [itcs]
/-- A list of things that is being built. -/
structure Il (w W : World) (a : Option Addr) (n c : Nat) (l : List It) : Prop where
 row : Row W 4 a n c (itcs l)
 st : Step [] (blks a) w W
/-- .. with a block that stands besides. -/
structure Ib (w W : World) (b : Nat) (T : TypeId) (cs : Array Value) (a : Option Addr) (n c : Nat) (l : List It) : Prop where
 blk : Blk W b T cs
 row : Row W 4 a n c (itcs l)
 st : Step [] (blks a) w W
 nb : b ∉ blks a
section
variable {w W W' : World} {b n c n' c' : Nat} {T : TypeId} {cs : Array Value} {a a' : Option Addr} {l m : List It}
theorem Il.len (h : Il w W a n c l) : n = l.length := by
 have := h.row.len
 rw [itcs_len] at this
 omega
theorem Il.quiet (h : Il w W a n c l) (k : Step [] [] W W') : Il w W' a n c l := ⟨h.row.step k (by simp), h.st.trans (by simpa using k.frame (blks a))⟩
theorem Il.box (h : Il w W a n c l) (T : TypeId) (cs : Array Value) : Ib w (W.alloc (.cells cs T)) W.heap.size T cs a n c l :=
 ⟨Blk.new W T cs, h.row.alloc _, h.st.alloc _, fun hm => by have := h.row.lt _ hm; omega⟩
theorem Ib.il (h : Ib w W b T cs a n c l) : Il w W a n c l := ⟨h.row, h.st⟩
theorem Ib.quiet (h : Ib w W b T cs a n c l) (k : Step [] [] W W') : Ib w W' b T cs a n c l := ⟨h.blk.step k (by simp), (h.il.quiet k).row, (h.il.quiet k).st, h.nb⟩
theorem Ib.alloc (h : Ib w W b T cs a n c l) (o : Obj) : Ib w (W.alloc o) b T cs a n c l := h.quiet ((Step.refl [] W).alloc o)
theorem Ib.app (h : Ib w W b T cs a n c l) (hr : Row W' 4 a' n' c' (itcs l ++ itcs m)) (k : Step (blks a) (blks a') W W') : Ib w W' b T cs a' n' c' (l ++ m) :=
 ⟨h.blk.step k h.nb, by rw [itcs_app']; exact hr, h.st.trans k, k.notin h.blk.lt h.nb⟩
end
theorem daIts_len (d : Da) : (daIts d).length ≤ 5 := by
 unfold daIts
 repeat' split
 all_goals simp
theorem fm_step (l : List Da) (k : Nat) (d : Da) (h : l[k]? = some d) : (l.take (k + 1)).flatMap daIts = (l.take k).flatMap daIts ++ daIts d := by simp [List.take_add_one, h]
def ActsQ (l : List Da) (w : World) (e : Ending) (w' : World) : Prop :=
 (l.any badA = true ∧ e = .returned (.tuple #[.slice none 0 0, .bool false]) ∨ l.any badA = false ∧ ∃ a c, e = .returned (.tuple #[.slice a (dasIts l).length c, .bool true]) ∧ Rd w' 4 a (dasIts l).length (itcs (dasIts l)) ∧ (∀ g ∈ blks a, w.heap.size ≤ g)) ∧ Step [] [] w w'
set_option maxHeartbeats 16000000 in
theorem ractsQ_any (l : List Da) (a : Option Addr) (cap : Nat) (w : World) (hr : Rd w 7 a l.length (dacs l)) (hl : l.length ≤ 1048576) : Calls Try.prog 75 #[.slice a l.length cap] w (ActsQ l w) := by
 have HR := Lib.hid hr
 clear hr
 obtain ⟨i0, hi, hz0, hz1, hz2⟩ := info_parts Try.info_item
 have HI := Lib.hid (And.intro hi (And.intro hz0 (And.intro hz1 hz2)))
 clear hi hz0 hz1 hz2
 go_enter Try.func75, Try.ntmps75
 go_wp2_with fail
 refine (rnm_any l.length w).mono ?_
 rintro e X0 ⟨rfl, k0⟩
 have H0 : Hid (Il w (X0.alloc (.cells #[.int .i64 0, .int .i64 (l.length : Int), .string ⟨#[]⟩, .bool false] 88)) (some ⟨X0.heap.size, 0, none⟩) 1 1 (nI l.length :: (l.take 0).flatMap daIts)) := Lib.hid ⟨row_blk' (xs := itcs [nI l.length]) (Blk.new X0 88 _) 4 1 rfl (by unfold maxLen; omega), (k0.hold _)⟩
 clear k0
 go_wp2_with fail
 go_loopw [4, 5] (fun o i W => ∃ (k : Nat) (a0 : Option Addr) (n0 c0 : Nat), k ≤ l.length ∧ n0 ≤ 1 + 5 * k ∧ i = .int .i64 k ∧ o = .slice a0 n0 c0 ∧ Hid ((l.take k).any badA = false) ∧ Hid (Il w W a0 n0 c0 (nI l.length :: (l.take k).flatMap daIts))) (fun _ i _ => l.length - (intOf i).toNat)
 case atStart => exact ⟨0, _, 1, 1, by omega, by omega, rfl, rfl, Lib.hid rfl, H0⟩
 case round =>
  clear H0
  rename World => W
  obtain ⟨k, a0, n0, c0, hk, hn0, rfl, rfl, HNB, HW⟩ := hrel
  by_cases hlt : k < l.length
  ·have hlt' : (k : Int) < l.length := by omega
   obtain ⟨d, hd⟩ : ∃ d, l[k]? = some d := ⟨_, List.getElem?_eq_getElem hlt⟩
   have hrd := HR.out.step0 HW.out.st
   obtain ⟨g, off, hsa⟩ := hrd.some_ (by omega)
   subst hsa
   have cd := rd_da hrd hd
   have gl : g < W.heap.size := by have := World.block_lt_of_cell? _ _ cd.1; simpa using this
   have HX := Lib.hid hd
   clear hd hrd
   go_upto_region 6 with fail
   clear cd gl
   obtain ⟨L0, hL0⟩ : ∃ L0, L0 = nI l.length :: (l.take k).flatMap daIts := ⟨_, rfl⟩
   have HL := Lib.hid hL0
   rw [← hL0] at HW
   have HWb := HW.out.box 108 (dac d).toArray
   change Code.wp _ _ _ _ (W.alloc (.cells (dac d).toArray 108))
   obtain ⟨eb, heb⟩ : ∃ eb, eb = W.heap.size := ⟨_, rfl⟩
   obtain ⟨W0, hW0⟩ : ∃ W0, W0 = W.alloc (.cells (dac d).toArray 108) := ⟨_, rfl⟩
   rw [← heb, ← hW0] at HWb
   rw [← hW0]
   try rw [← heb]
   have E0 := Lib.hid HWb
   clear hL0 HWb heb hW0
   by_cases h1 : d.kind = 1
   ·skip
    have hd : d.kind = 1 := h1
    have HKD := Lib.hid hd
    have HL1 : Hid ((l.take (k + 1)).any badA = false) := Lib.hid (by rw [takeQ_any _ _ _ _ HX.out, HNB.out, Bool.false_or]; simp [badA, hd])
    have q1 : decide (d.kind < 1) = false := by rw [hd]; rfl
    have q2 : decide ((3 : Int) < d.kind) = false := by rw [hd]; rfl
    have k1 : (d.kind == 1) = true := by rw [hd]; rfl
    have k2 : (d.kind == 2) = false := by rw [hd]; rfl
    clear hd h1
    have zc := E0.out.blk.cell
    have z0 := zc 0
    clear zc
    simp only [dac, List.getElem?_toArray, List.getElem?_cons_zero, List.getElem?_cons_succ] at z0
    have zl := E0.out.blk.lt
    go_upto_region 8 with fail
    clear q1 q2 z0 zl
    have pc := E0.out.blk.cell
    have p0 := pc 0
    clear pc
    simp only [dac, List.getElem?_toArray, List.getElem?_cons_zero, List.getElem?_cons_succ] at p0
    have pl := E0.out.blk.lt
    go_wp2_with fail
    refine (rnm_any d.kind _).mono ?_
    rintro e X1 ⟨rfl, kk⟩
    have C1 := Lib.hid (E0.out.quiet kk)
    clear kk p0 pl
    obtain ⟨g2, hg⟩ : ∃ g, g = X1.heap.size := ⟨_, rfl⟩
    obtain ⟨Y2, hW⟩ : ∃ Y, Y = X1.alloc (.cells #[.int .i64 0, .int .i64 d.kind, .string ⟨#[]⟩, .bool false] 88) := ⟨_, rfl⟩
    have B2 : Hid (Ib w Y2 eb 108 (dac d).toArray a0 n0 c0 L0 ∧ Rd Y2 4 (some ⟨g2, 0, none⟩) 1 (itcs [nI d.kind])) := Lib.hid (by rw [hW, hg]; exact ⟨C1.out.alloc _, rd_blk' (xs := itcs [nI d.kind]) (Blk.new X1 88 _) 4 1 rfl⟩)
    have HY2 := Lib.hid hW
    have HG2 := Lib.hid hg
    clear hW hg
    go_upto_region 9 with (at_builtin; rw [show X1.heap.size = g2 from HG2.out.symm, show X1.alloc (.cells #[.int .i64 0, .int .i64 d.kind, .string ⟨#[]⟩, .bool false] 88) = Y2 from HY2.out.symm]; refine wpList_append_row rfl (.tmp 29) (.tmp 33) 89 89 rfl 88 i0 _ 4 40 Try.underlying89 HI.out.1 HI.out.2.1 HI.out.2.2.1 HI.out.2.2.2 rfl rfl B2.out.1.row rfl (Src.rd (n := 1) 89 88 Try.underlying89 B2.out.2 (itcs_one _)) (by unfold maxLen; omega) (by omega) (by omega) ?_; intro a2 c2 w2 hr st; have A2 : Hid (Ib w w2 eb 108 (dac d).toArray a2 (n0 + 1) c2 (L0 ++ [nI d.kind])) := Lib.hid (B2.out.1.app hr st); clear hr st)
    clear HY2 HG2 C1 B2
    have zc := A2.out.blk.cell
    have z0 := zc 0
    clear zc
    simp only [dac, List.getElem?_toArray, List.getElem?_cons_zero, List.getElem?_cons_succ] at z0
    have zl := A2.out.blk.lt
    go_upto_region 11 with fail
    clear z0 zl
    have D3 := Lib.hid (A2.out.quiet ((Step.refl [] _).drew))
    refine wp_region_held_drew (S := fun V => Hid (Blk V eb 108 (dac d).toArray)) (by kernel_rfl) (Lib.hid D3.out.blk) (fun hHeld => ?_)
    refine wpAnyH_take (i := 0) (v := ?_) rfl (by kernel_rfl) (by kernel_rfl) (by kernel_rfl) (fun _ _ _ h => h) (Or.inl ⟨by rfl, ?_⟩) hHeld ?_
    rotate_left
    ·intro w hSw1
     try dsimp only at hSw1
     go_simp
     try (with_reducible rfl)
    try simp only [Act.put, LsA, LsB, LsC, LsD, LsE, LsF]
    refine wpAnyH_take (i := 1) (v := ?_) rfl (by kernel_rfl) (by kernel_rfl) (by kernel_rfl) (fun _ _ _ h => h) (Or.inl ⟨by rfl, ?_⟩) hHeld ?_
    rotate_left
    ·intro w hSw1
     try dsimp only at hSw1
     go_simp
     try (with_reducible rfl)
    try simp only [Act.put, LsA, LsB, LsC, LsD, LsE, LsF]
    refine wpAnyH_take (i := 2) (v := ?_) rfl (by kernel_rfl) (by kernel_rfl) (by kernel_rfl) (fun _ _ _ h => h) (Or.inl ⟨by rfl, ?_⟩) hHeld ?_
    rotate_left
    ·intro w hSw1
     try dsimp only at hSw1
     go_simp
     try (with_reducible rfl)
    try simp only [Act.put, LsA, LsB, LsC, LsD, LsE, LsF]
    refine wpAnyH_take (i := 3) (v := ?_) rfl (by kernel_rfl) (by kernel_rfl) (by kernel_rfl) (fun _ _ _ h => h) (Or.inl ⟨by rfl, ?_⟩) hHeld ?_
    rotate_left
    ·intro w hSw1
     have tc := hSw1.out.cell
     have t0 := tc 0
     have t1 := tc 1
     have t2 := tc 2
     have t3 := tc 3
     have t4 := tc 4
     have t5 := tc 5
     have t6 := tc 6
     clear tc
     simp only [dac, List.getElem?_toArray, List.getElem?_cons_zero, List.getElem?_cons_succ] at t0 t1 t2 t3 t4 t5 t6
     have tl := hSw1.out.lt
     go_simp
     try (with_reducible rfl)
    try simp only [Act.put, LsA, LsB, LsC, LsD, LsE, LsF]
    refine wpAnyH_take (i := 5) (v := ?_) rfl (by kernel_rfl) (by kernel_rfl) (by kernel_rfl) (fun _ _ _ h => h) (Or.inl ⟨by rfl, ?_⟩) hHeld ?_
    rotate_left
    ·intro w hSw1
     try dsimp only at hSw1
     go_simp
     try (with_reducible rfl)
    try simp only [Act.put, LsA, LsB, LsC, LsD, LsE, LsF]
    refine wpAnyH_take (i := 6) (v := ?_) rfl (by kernel_rfl) (by kernel_rfl) (by kernel_rfl) (fun _ _ _ h => h) (Or.inl ⟨by rfl, ?_⟩) hHeld ?_
    rotate_left
    ·intro w hSw1
     try dsimp only at hSw1
     go_simp
     try (with_reducible rfl)
    try simp only [Act.put, LsA, LsB, LsC, LsD, LsE, LsF]
    refine wpAnyH_take (i := 7) (v := ?_) rfl (by kernel_rfl) (by kernel_rfl) (by kernel_rfl) (fun _ _ _ h => h) (Or.inl ⟨by rfl, ?_⟩) hHeld ?_
    rotate_left
    ·intro w hSw1
     have tc := hSw1.out.cell
     have t0 := tc 0
     have t1 := tc 1
     have t2 := tc 2
     have t3 := tc 3
     have t4 := tc 4
     have t5 := tc 5
     have t6 := tc 6
     clear tc
     simp only [dac, List.getElem?_toArray, List.getElem?_cons_zero, List.getElem?_cons_succ] at t0 t1 t2 t3 t4 t5 t6
     have tl := hSw1.out.lt
     go_simp
     try (with_reducible rfl)
    try simp only [Act.put, LsA, LsB, LsC, LsD, LsE, LsF]
    refine wpAnyH_ready (rs := [4]) (by kernel_rfl) (by simp) ?_
    refine AllReadyH.cons rfl (fun K hK => ?_) AllReadyH.nil
    go_simp
    refine (rtx_any d.fr _).mono ?_; rintro e X4 ⟨rfl, kk⟩; have C4 := Lib.hid (D3.out.quiet kk); clear kk
    go_wp2_with fail
    refine hK.out _ _ (Lib.hid C4.out.blk) (fun hHeld2 => ?_)
    clear hK K hHeld
    try simp only [Act.put, LsA, LsB, LsC, LsD, LsE, LsF]
    refine wpAnyH_ready (rs := [8]) (by kernel_rfl) (by simp) ?_
    refine AllReadyH.cons rfl (fun K hK => ?_) AllReadyH.nil
    go_simp
    refine (rtx_any d.to_ _).mono ?_; rintro e X5 ⟨rfl, kk⟩; have C5 := Lib.hid (C4.out.quiet kk); clear kk
    go_wp2_with fail
    refine hK.out _ _ (Lib.hid C5.out.blk) (fun hHeld3 => ?_)
    clear hK K hHeld2
    try simp only [Act.put, LsA, LsB, LsC, LsD, LsE, LsF]
    refine wpAnyH_ready (rs := [9]) (by kernel_rfl) (by simp) ?_
    refine AllReadyH.cons rfl (fun K hK => ?_) AllReadyH.nil
    go_simp; go_wp2_with fail; refine letterQ (K := K) ?_; intro U hU; obtain ⟨g6, hg⟩ : ∃ g, g = X5.heap.size := ⟨_, rfl⟩; have B6 : Hid (Ib w U eb 108 (dac d).toArray a2 (n0 + 1) c2 (L0 ++ [nI d.kind]) ∧ Rd U 4 (some ⟨g6, 0, none⟩) 2 (itcs [tI d.fr, tI d.to_])) := Lib.hid (by rw [hU, hg]; exact ⟨C5.out.alloc _, rd_blk' (xs := itcs [tI d.fr, tI d.to_]) (Blk.new X5 88 _) 4 2 rfl⟩); try rw [← hg]; clear hU hg
    refine hK.out _ _ (Lib.hid B6.out.1.blk) (fun hHeld4 => ?_)
    clear hK K hHeld3
    try simp only [Act.put, LsA, LsB, LsC, LsD, LsE, LsF]
    refine wpAnyH_ready (rs := [10]) (by kernel_rfl) (by simp) ?_
    refine AllReadyH.cons rfl (fun K hK => ?_) AllReadyH.nil
    refine step_append_row rfl (.tmp 47) (.tmp 56) 89 89 rfl 88 i0 _ 4 40 Try.underlying89 HI.out.1 HI.out.2.1 HI.out.2.2.1 HI.out.2.2.2 rfl rfl B6.out.1.row rfl (Src.rd (n := 2) 89 88 Try.underlying89 B6.out.2 (itcs_one _)) (by unfold maxLen; omega) (by omega) (by omega) ?_; intro a6 c6 w6 hr st; have A6 : Hid (Ib w w6 eb 108 (dac d).toArray a6 ((n0 + 1) + 2) c6 ((L0 ++ [nI d.kind]) ++ [tI d.fr, tI d.to_])) := Lib.hid (B6.out.1.app hr st); clear hr st
    refine hK.out _ _ (Lib.hid A6.out.blk) (fun hHeld5 => ?_)
    clear hK K hHeld4
    try simp only [Act.put, LsA, LsB, LsC, LsD, LsE, LsF]
    refine wpAnyH_take (i := 11) (v := ?_) rfl (by kernel_rfl) (by kernel_rfl) (by kernel_rfl) (fun _ _ _ h => h) (Or.inl ⟨by rfl, ?_⟩) hHeld5 ?_
    rotate_left
    ·intro w hSw1
     try dsimp only at hSw1
     go_simp
     try (with_reducible rfl)
    try simp only [Act.put, LsA, LsB, LsC, LsD, LsE, LsF]
    refine wpAnyH_done (by kernel_rfl) ?_ _
    have zc := A6.out.blk.cell
    have z0 := zc 0
    clear zc
    simp only [dac, List.getElem?_toArray, List.getElem?_cons_zero, List.getElem?_cons_succ] at z0
    have zl := A6.out.blk.lt
    go_upto_region 13 with fail
    clear z0 zl
    have D7 := Lib.hid (A6.out.quiet ((Step.refl [] _).drew))
    refine wp_region_held_drew (S := fun V => Hid (Blk V eb 108 (dac d).toArray)) (by kernel_rfl) (Lib.hid D7.out.blk) (fun hHeld => ?_)
    refine wpAnyH_take (i := 0) (v := ?_) rfl (by kernel_rfl) (by kernel_rfl) (by kernel_rfl) (fun _ _ _ h => h) (Or.inl ⟨by rfl, ?_⟩) hHeld ?_
    rotate_left
    ·intro w hSw1
     try dsimp only at hSw1
     go_simp
     try (with_reducible rfl)
    try simp only [Act.put, LsA, LsB, LsC, LsD, LsE, LsF]
    refine wpAnyH_take (i := 1) (v := ?_) rfl (by kernel_rfl) (by kernel_rfl) (by kernel_rfl) (fun _ _ _ h => h) (Or.inl ⟨by rfl, ?_⟩) hHeld ?_
    rotate_left
    ·intro w hSw1
     try dsimp only at hSw1
     go_simp
     try (with_reducible rfl)
    try simp only [Act.put, LsA, LsB, LsC, LsD, LsE, LsF]
    refine wpAnyH_take (i := 2) (v := ?_) rfl (by kernel_rfl) (by kernel_rfl) (by kernel_rfl) (fun _ _ _ h => h) (Or.inl ⟨by rfl, ?_⟩) hHeld ?_
    rotate_left
    ·intro w hSw1
     have tc := hSw1.out.cell
     have t0 := tc 0
     have t1 := tc 1
     have t2 := tc 2
     have t3 := tc 3
     have t4 := tc 4
     have t5 := tc 5
     have t6 := tc 6
     clear tc
     simp only [dac, List.getElem?_toArray, List.getElem?_cons_zero, List.getElem?_cons_succ] at t0 t1 t2 t3 t4 t5 t6
     have tl := hSw1.out.lt
     go_simp
     try (with_reducible rfl)
    try simp only [Act.put, LsA, LsB, LsC, LsD, LsE, LsF]
    refine wpAnyH_take (i := 4) (v := ?_) rfl (by kernel_rfl) (by kernel_rfl) (by kernel_rfl) (fun _ _ _ h => h) (Or.inl ⟨by rfl, ?_⟩) hHeld ?_
    rotate_left
    ·intro w hSw1
     try dsimp only at hSw1
     go_simp
     try (with_reducible rfl)
    try simp only [Act.put, LsA, LsB, LsC, LsD, LsE, LsF]
    refine wpAnyH_take (i := 5) (v := ?_) rfl (by kernel_rfl) (by kernel_rfl) (by kernel_rfl) (fun _ _ _ h => h) (Or.inl ⟨by rfl, ?_⟩) hHeld ?_
    rotate_left
    ·intro w hSw1
     have tc := hSw1.out.cell
     have t0 := tc 0
     have t1 := tc 1
     have t2 := tc 2
     have t3 := tc 3
     have t4 := tc 4
     have t5 := tc 5
     have t6 := tc 6
     clear tc
     simp only [dac, List.getElem?_toArray, List.getElem?_cons_zero, List.getElem?_cons_succ] at t0 t1 t2 t3 t4 t5 t6
     have tl := hSw1.out.lt
     go_simp
     try (with_reducible rfl)
    try simp only [Act.put, LsA, LsB, LsC, LsD, LsE, LsF]
    refine wpAnyH_ready (rs := [3]) (by kernel_rfl) (by simp) ?_
    refine AllReadyH.cons rfl (fun K hK => ?_) AllReadyH.nil
    go_simp
    refine (rnm_any d.rev _).mono ?_; rintro e X8 ⟨rfl, kk⟩; have C8 := Lib.hid (D7.out.quiet kk); clear kk
    go_wp2_with fail
    refine hK.out _ _ (Lib.hid C8.out.blk) (fun hHeld2 => ?_)
    clear hK K hHeld
    try simp only [Act.put, LsA, LsB, LsC, LsD, LsE, LsF]
    refine wpAnyH_ready (rs := [6]) (by kernel_rfl) (by simp) ?_
    refine AllReadyH.cons rfl (fun K hK => ?_) AllReadyH.nil
    go_simp
    refine (rnm_any d.most _).mono ?_; rintro e X9 ⟨rfl, kk⟩; have C9 := Lib.hid (C8.out.quiet kk); clear kk
    go_wp2_with fail
    refine hK.out _ _ (Lib.hid C9.out.blk) (fun hHeld3 => ?_)
    clear hK K hHeld2
    try simp only [Act.put, LsA, LsB, LsC, LsD, LsE, LsF]
    refine wpAnyH_ready (rs := [7]) (by kernel_rfl) (by simp) ?_
    refine AllReadyH.cons rfl (fun K hK => ?_) AllReadyH.nil
    go_simp; go_wp2_with fail; refine letterQ (K := K) ?_; intro U hU; obtain ⟨g10, hg⟩ : ∃ g, g = X9.heap.size := ⟨_, rfl⟩; have B10 : Hid (Ib w U eb 108 (dac d).toArray a6 ((n0 + 1) + 2) c6 ((L0 ++ [nI d.kind]) ++ [tI d.fr, tI d.to_]) ∧ Rd U 4 (some ⟨g10, 0, none⟩) 2 (itcs [nI d.rev, nI d.most])) := Lib.hid (by rw [hU, hg]; exact ⟨C9.out.alloc _, rd_blk' (xs := itcs [nI d.rev, nI d.most]) (Blk.new X9 88 _) 4 2 rfl⟩); try rw [← hg]; clear hU hg
    refine hK.out _ _ (Lib.hid B10.out.1.blk) (fun hHeld4 => ?_)
    clear hK K hHeld3
    try simp only [Act.put, LsA, LsB, LsC, LsD, LsE, LsF]
    refine wpAnyH_ready (rs := [8]) (by kernel_rfl) (by simp) ?_
    refine AllReadyH.cons rfl (fun K hK => ?_) AllReadyH.nil
    refine step_append_row rfl (.tmp 61) (.tmp 68) 89 89 rfl 88 i0 _ 4 40 Try.underlying89 HI.out.1 HI.out.2.1 HI.out.2.2.1 HI.out.2.2.2 rfl rfl B10.out.1.row rfl (Src.rd (n := 2) 89 88 Try.underlying89 B10.out.2 (itcs_one _)) (by unfold maxLen; omega) (by omega) (by omega) ?_; intro a10 c10 w10 hr st; have A10 : Hid (Ib w w10 eb 108 (dac d).toArray a10 (((n0 + 1) + 2) + 2) c10 (((L0 ++ [nI d.kind]) ++ [tI d.fr, tI d.to_]) ++ [nI d.rev, nI d.most])) := Lib.hid (B10.out.1.app hr st); clear hr st
    refine hK.out _ _ (Lib.hid A10.out.blk) (fun hHeld5 => ?_)
    clear hK K hHeld4
    try simp only [Act.put, LsA, LsB, LsC, LsD, LsE, LsF]
    refine wpAnyH_take (i := 9) (v := ?_) rfl (by kernel_rfl) (by kernel_rfl) (by kernel_rfl) (fun _ _ _ h => h) (Or.inl ⟨by rfl, ?_⟩) hHeld5 ?_
    rotate_left
    ·intro w hSw1
     try dsimp only at hSw1
     go_simp
     try (with_reducible rfl)
    try simp only [Act.put, LsA, LsB, LsC, LsD, LsE, LsF]
    refine wpAnyH_done (by kernel_rfl) ?_ _
    go_wp2_with fail
    go_roundw
    case rel => exact ⟨k + 1, a10, (((n0 + 1) + 2) + 2), c10, by omega, by omega, by go_num, rfl, HL1.out, Lib.hid (by rw [fm_step _ _ _ HX.out, ← List.cons_append, ← HL.out]; have hz := A10.out.il; simpa [daIts, HKD.out, List.append_assoc] using hz)⟩
    case measure => simp [intOf]; omega
   ·by_cases h2 : d.kind = 2
    ·skip
     have hd : d.kind = 2 := h2
     have HKD := Lib.hid hd
     have HL1 : Hid ((l.take (k + 1)).any badA = false) := Lib.hid (by rw [takeQ_any _ _ _ _ HX.out, HNB.out, Bool.false_or]; simp [badA, hd])
     have q1 : decide (d.kind < 1) = false := by rw [hd]; rfl
     have q2 : decide ((3 : Int) < d.kind) = false := by rw [hd]; rfl
     have k1 : (d.kind == 1) = false := by rw [hd]; rfl
     have k2 : (d.kind == 2) = true := by rw [hd]; rfl
     clear hd h2
     have zc := E0.out.blk.cell
     have z0 := zc 0
     clear zc
     simp only [dac, List.getElem?_toArray, List.getElem?_cons_zero, List.getElem?_cons_succ] at z0
     have zl := E0.out.blk.lt
     go_upto_region 8 with fail
     clear q1 q2 z0 zl
     have pc := E0.out.blk.cell
     have p0 := pc 0
     clear pc
     simp only [dac, List.getElem?_toArray, List.getElem?_cons_zero, List.getElem?_cons_succ] at p0
     have pl := E0.out.blk.lt
     go_wp2_with fail
     refine (rnm_any d.kind _).mono ?_
     rintro e X11 ⟨rfl, kk⟩
     have C11 := Lib.hid (E0.out.quiet kk)
     clear kk p0 pl
     obtain ⟨g12, hg⟩ : ∃ g, g = X11.heap.size := ⟨_, rfl⟩
     obtain ⟨Y12, hW⟩ : ∃ Y, Y = X11.alloc (.cells #[.int .i64 0, .int .i64 d.kind, .string ⟨#[]⟩, .bool false] 88) := ⟨_, rfl⟩
     have B12 : Hid (Ib w Y12 eb 108 (dac d).toArray a0 n0 c0 L0 ∧ Rd Y12 4 (some ⟨g12, 0, none⟩) 1 (itcs [nI d.kind])) := Lib.hid (by rw [hW, hg]; exact ⟨C11.out.alloc _, rd_blk' (xs := itcs [nI d.kind]) (Blk.new X11 88 _) 4 1 rfl⟩)
     have HY12 := Lib.hid hW
     have HG12 := Lib.hid hg
     clear hW hg
     go_upto_region 9 with (at_builtin; rw [show X11.heap.size = g12 from HG12.out.symm, show X11.alloc (.cells #[.int .i64 0, .int .i64 d.kind, .string ⟨#[]⟩, .bool false] 88) = Y12 from HY12.out.symm]; refine wpList_append_row rfl (.tmp 29) (.tmp 33) 89 89 rfl 88 i0 _ 4 40 Try.underlying89 HI.out.1 HI.out.2.1 HI.out.2.2.1 HI.out.2.2.2 rfl rfl B12.out.1.row rfl (Src.rd (n := 1) 89 88 Try.underlying89 B12.out.2 (itcs_one _)) (by unfold maxLen; omega) (by omega) (by omega) ?_; intro a12 c12 w12 hr st; have A12 : Hid (Ib w w12 eb 108 (dac d).toArray a12 (n0 + 1) c12 (L0 ++ [nI d.kind])) := Lib.hid (B12.out.1.app hr st); clear hr st)
     clear HY12 HG12 C11 B12
     have zc := A12.out.blk.cell
     have z0 := zc 0
     clear zc
     simp only [dac, List.getElem?_toArray, List.getElem?_cons_zero, List.getElem?_cons_succ] at z0
     have zl := A12.out.blk.lt
     go_upto_region 10 with fail
     clear z0 zl
     have D13 := Lib.hid (A12.out.quiet ((Step.refl [] _).drew))
     refine wp_region_held_drew (S := fun V => Hid (Blk V eb 108 (dac d).toArray)) (by kernel_rfl) (Lib.hid D13.out.blk) (fun hHeld => ?_)
     refine wpAnyH_take (i := 0) (v := ?_) rfl (by kernel_rfl) (by kernel_rfl) (by kernel_rfl) (fun _ _ _ h => h) (Or.inl ⟨by rfl, ?_⟩) hHeld ?_
     rotate_left
     ·intro w hSw1
      try dsimp only at hSw1
      go_simp
      try (with_reducible rfl)
     try simp only [Act.put, LsA, LsB, LsC, LsD, LsE, LsF]
     refine wpAnyH_take (i := 1) (v := ?_) rfl (by kernel_rfl) (by kernel_rfl) (by kernel_rfl) (fun _ _ _ h => h) (Or.inl ⟨by rfl, ?_⟩) hHeld ?_
     rotate_left
     ·intro w hSw1
      try dsimp only at hSw1
      go_simp
      try (with_reducible rfl)
     try simp only [Act.put, LsA, LsB, LsC, LsD, LsE, LsF]
     refine wpAnyH_take (i := 2) (v := ?_) rfl (by kernel_rfl) (by kernel_rfl) (by kernel_rfl) (fun _ _ _ h => h) (Or.inl ⟨by rfl, ?_⟩) hHeld ?_
     rotate_left
     ·intro w hSw1
      have tc := hSw1.out.cell
      have t0 := tc 0
      have t1 := tc 1
      have t2 := tc 2
      have t3 := tc 3
      have t4 := tc 4
      have t5 := tc 5
      have t6 := tc 6
      clear tc
      simp only [dac, List.getElem?_toArray, List.getElem?_cons_zero, List.getElem?_cons_succ] at t0 t1 t2 t3 t4 t5 t6
      have tl := hSw1.out.lt
      go_simp
      try (with_reducible rfl)
     try simp only [Act.put, LsA, LsB, LsC, LsD, LsE, LsF]
     refine wpAnyH_take (i := 4) (v := ?_) rfl (by kernel_rfl) (by kernel_rfl) (by kernel_rfl) (fun _ _ _ h => h) (Or.inl ⟨by rfl, ?_⟩) hHeld ?_
     rotate_left
     ·intro w hSw1
      try dsimp only at hSw1
      go_simp
      try (with_reducible rfl)
     try simp only [Act.put, LsA, LsB, LsC, LsD, LsE, LsF]
     refine wpAnyH_take (i := 5) (v := ?_) rfl (by kernel_rfl) (by kernel_rfl) (by kernel_rfl) (fun _ _ _ h => h) (Or.inl ⟨by rfl, ?_⟩) hHeld ?_
     rotate_left
     ·intro w hSw1
      have tc := hSw1.out.cell
      have t0 := tc 0
      have t1 := tc 1
      have t2 := tc 2
      have t3 := tc 3
      have t4 := tc 4
      have t5 := tc 5
      have t6 := tc 6
      clear tc
      simp only [dac, List.getElem?_toArray, List.getElem?_cons_zero, List.getElem?_cons_succ] at t0 t1 t2 t3 t4 t5 t6
      have tl := hSw1.out.lt
      go_simp
      try (with_reducible rfl)
     try simp only [Act.put, LsA, LsB, LsC, LsD, LsE, LsF]
     refine wpAnyH_ready (rs := [3]) (by kernel_rfl) (by simp) ?_
     refine AllReadyH.cons rfl (fun K hK => ?_) AllReadyH.nil
     go_simp
     refine (rtx_any d.key _).mono ?_; rintro e X14 ⟨rfl, kk⟩; have C14 := Lib.hid (D13.out.quiet kk); clear kk
     go_wp2_with fail
     refine hK.out _ _ (Lib.hid C14.out.blk) (fun hHeld2 => ?_)
     clear hK K hHeld
     try simp only [Act.put, LsA, LsB, LsC, LsD, LsE, LsF]
     refine wpAnyH_ready (rs := [6]) (by kernel_rfl) (by simp) ?_
     refine AllReadyH.cons rfl (fun K hK => ?_) AllReadyH.nil
     go_simp
     refine (rtx_any d.val _).mono ?_; rintro e X15 ⟨rfl, kk⟩; have C15 := Lib.hid (C14.out.quiet kk); clear kk
     go_wp2_with fail
     refine hK.out _ _ (Lib.hid C15.out.blk) (fun hHeld3 => ?_)
     clear hK K hHeld2
     try simp only [Act.put, LsA, LsB, LsC, LsD, LsE, LsF]
     refine wpAnyH_ready (rs := [7]) (by kernel_rfl) (by simp) ?_
     refine AllReadyH.cons rfl (fun K hK => ?_) AllReadyH.nil
     go_simp; go_wp2_with fail; refine letterQ (K := K) ?_; intro U hU; obtain ⟨g16, hg⟩ : ∃ g, g = X15.heap.size := ⟨_, rfl⟩; have B16 : Hid (Ib w U eb 108 (dac d).toArray a12 (n0 + 1) c12 (L0 ++ [nI d.kind]) ∧ Rd U 4 (some ⟨g16, 0, none⟩) 2 (itcs [tI d.key, tI d.val])) := Lib.hid (by rw [hU, hg]; exact ⟨C15.out.alloc _, rd_blk' (xs := itcs [tI d.key, tI d.val]) (Blk.new X15 88 _) 4 2 rfl⟩); try rw [← hg]; clear hU hg
     refine hK.out _ _ (Lib.hid B16.out.1.blk) (fun hHeld4 => ?_)
     clear hK K hHeld3
     try simp only [Act.put, LsA, LsB, LsC, LsD, LsE, LsF]
     refine wpAnyH_ready (rs := [8]) (by kernel_rfl) (by simp) ?_
     refine AllReadyH.cons rfl (fun K hK => ?_) AllReadyH.nil
     refine step_append_row rfl (.tmp 38) (.tmp 45) 89 89 rfl 88 i0 _ 4 40 Try.underlying89 HI.out.1 HI.out.2.1 HI.out.2.2.1 HI.out.2.2.2 rfl rfl B16.out.1.row rfl (Src.rd (n := 2) 89 88 Try.underlying89 B16.out.2 (itcs_one _)) (by unfold maxLen; omega) (by omega) (by omega) ?_; intro a16 c16 w16 hr st; have A16 : Hid (Ib w w16 eb 108 (dac d).toArray a16 ((n0 + 1) + 2) c16 ((L0 ++ [nI d.kind]) ++ [tI d.key, tI d.val])) := Lib.hid (B16.out.1.app hr st); clear hr st
     refine hK.out _ _ (Lib.hid A16.out.blk) (fun hHeld5 => ?_)
     clear hK K hHeld4
     try simp only [Act.put, LsA, LsB, LsC, LsD, LsE, LsF]
     refine wpAnyH_take (i := 9) (v := ?_) rfl (by kernel_rfl) (by kernel_rfl) (by kernel_rfl) (fun _ _ _ h => h) (Or.inl ⟨by rfl, ?_⟩) hHeld5 ?_
     rotate_left
     ·intro w hSw1
      try dsimp only at hSw1
      go_simp
      try (with_reducible rfl)
     try simp only [Act.put, LsA, LsB, LsC, LsD, LsE, LsF]
     refine wpAnyH_done (by kernel_rfl) ?_ _
     go_wp2_with fail
     go_roundw
     case rel => exact ⟨k + 1, a16, ((n0 + 1) + 2), c16, by omega, by omega, by go_num, rfl, HL1.out, Lib.hid (by rw [fm_step _ _ _ HX.out, ← List.cons_append, ← HL.out]; have hz := A16.out.il; simpa [daIts, HKD.out, List.append_assoc] using hz)⟩
     case measure => simp [intOf]; omega
    ·by_cases h3 : d.kind = 3
     ·skip
      have hd : d.kind = 3 := h3
      have HKD := Lib.hid hd
      have HL1 : Hid ((l.take (k + 1)).any badA = false) := Lib.hid (by rw [takeQ_any _ _ _ _ HX.out, HNB.out, Bool.false_or]; simp [badA, hd])
      have q1 : decide (d.kind < 1) = false := by rw [hd]; rfl
      have q2 : decide ((3 : Int) < d.kind) = false := by rw [hd]; rfl
      have k1 : (d.kind == 1) = false := by rw [hd]; rfl
      have k2 : (d.kind == 2) = false := by rw [hd]; rfl
      clear hd h3
      have zc := E0.out.blk.cell
      have z0 := zc 0
      clear zc
      simp only [dac, List.getElem?_toArray, List.getElem?_cons_zero, List.getElem?_cons_succ] at z0
      have zl := E0.out.blk.lt
      go_upto_region 8 with fail
      clear q1 q2 z0 zl
      have pc := E0.out.blk.cell
      have p0 := pc 0
      clear pc
      simp only [dac, List.getElem?_toArray, List.getElem?_cons_zero, List.getElem?_cons_succ] at p0
      have pl := E0.out.blk.lt
      go_wp2_with fail
      refine (rnm_any d.kind _).mono ?_
      rintro e X17 ⟨rfl, kk⟩
      have C17 := Lib.hid (E0.out.quiet kk)
      clear kk p0 pl
      obtain ⟨g18, hg⟩ : ∃ g, g = X17.heap.size := ⟨_, rfl⟩
      obtain ⟨Y18, hW⟩ : ∃ Y, Y = X17.alloc (.cells #[.int .i64 0, .int .i64 d.kind, .string ⟨#[]⟩, .bool false] 88) := ⟨_, rfl⟩
      have B18 : Hid (Ib w Y18 eb 108 (dac d).toArray a0 n0 c0 L0 ∧ Rd Y18 4 (some ⟨g18, 0, none⟩) 1 (itcs [nI d.kind])) := Lib.hid (by rw [hW, hg]; exact ⟨C17.out.alloc _, rd_blk' (xs := itcs [nI d.kind]) (Blk.new X17 88 _) 4 1 rfl⟩)
      have HY18 := Lib.hid hW
      have HG18 := Lib.hid hg
      clear hW hg
      go_upto_region 9 with (at_builtin; rw [show X17.heap.size = g18 from HG18.out.symm, show X17.alloc (.cells #[.int .i64 0, .int .i64 d.kind, .string ⟨#[]⟩, .bool false] 88) = Y18 from HY18.out.symm]; refine wpList_append_row rfl (.tmp 29) (.tmp 33) 89 89 rfl 88 i0 _ 4 40 Try.underlying89 HI.out.1 HI.out.2.1 HI.out.2.2.1 HI.out.2.2.2 rfl rfl B18.out.1.row rfl (Src.rd (n := 1) 89 88 Try.underlying89 B18.out.2 (itcs_one _)) (by unfold maxLen; omega) (by omega) (by omega) ?_; intro a18 c18 w18 hr st; have A18 : Hid (Ib w w18 eb 108 (dac d).toArray a18 (n0 + 1) c18 (L0 ++ [nI d.kind])) := Lib.hid (B18.out.1.app hr st); clear hr st)
      clear HY18 HG18 C17 B18
      have zc := A18.out.blk.cell
      have z0 := zc 0
      clear zc
      simp only [dac, List.getElem?_toArray, List.getElem?_cons_zero, List.getElem?_cons_succ] at z0
      have zl := A18.out.blk.lt
      go_upto_region 11 with fail
      clear z0 zl
      have D19 := Lib.hid (A18.out.quiet ((Step.refl [] _).drew))
      refine wp_region_held_drew (S := fun V => Hid (Blk V eb 108 (dac d).toArray)) (by kernel_rfl) (Lib.hid D19.out.blk) (fun hHeld => ?_)
      refine wpAnyH_take (i := 0) (v := ?_) rfl (by kernel_rfl) (by kernel_rfl) (by kernel_rfl) (fun _ _ _ h => h) (Or.inl ⟨by rfl, ?_⟩) hHeld ?_
      rotate_left
      ·intro w hSw1
       try dsimp only at hSw1
       go_simp
       try (with_reducible rfl)
      try simp only [Act.put, LsA, LsB, LsC, LsD, LsE, LsF]
      refine wpAnyH_take (i := 1) (v := ?_) rfl (by kernel_rfl) (by kernel_rfl) (by kernel_rfl) (fun _ _ _ h => h) (Or.inl ⟨by rfl, ?_⟩) hHeld ?_
      rotate_left
      ·intro w hSw1
       try dsimp only at hSw1
       go_simp
       try (with_reducible rfl)
      try simp only [Act.put, LsA, LsB, LsC, LsD, LsE, LsF]
      refine wpAnyH_take (i := 2) (v := ?_) rfl (by kernel_rfl) (by kernel_rfl) (by kernel_rfl) (fun _ _ _ h => h) (Or.inl ⟨by rfl, ?_⟩) hHeld ?_
      rotate_left
      ·intro w hSw1
       try dsimp only at hSw1
       go_simp
       try (with_reducible rfl)
      try simp only [Act.put, LsA, LsB, LsC, LsD, LsE, LsF]
      refine wpAnyH_take (i := 3) (v := ?_) rfl (by kernel_rfl) (by kernel_rfl) (by kernel_rfl) (fun _ _ _ h => h) (Or.inl ⟨by rfl, ?_⟩) hHeld ?_
      rotate_left
      ·intro w hSw1
       have tc := hSw1.out.cell
       have t0 := tc 0
       have t1 := tc 1
       have t2 := tc 2
       have t3 := tc 3
       have t4 := tc 4
       have t5 := tc 5
       have t6 := tc 6
       clear tc
       simp only [dac, List.getElem?_toArray, List.getElem?_cons_zero, List.getElem?_cons_succ] at t0 t1 t2 t3 t4 t5 t6
       have tl := hSw1.out.lt
       go_simp
       try (with_reducible rfl)
      try simp only [Act.put, LsA, LsB, LsC, LsD, LsE, LsF]
      refine wpAnyH_take (i := 5) (v := ?_) rfl (by kernel_rfl) (by kernel_rfl) (by kernel_rfl) (fun _ _ _ h => h) (Or.inl ⟨by rfl, ?_⟩) hHeld ?_
      rotate_left
      ·intro w hSw1
       try dsimp only at hSw1
       go_simp
       try (with_reducible rfl)
      try simp only [Act.put, LsA, LsB, LsC, LsD, LsE, LsF]
      refine wpAnyH_take (i := 6) (v := ?_) rfl (by kernel_rfl) (by kernel_rfl) (by kernel_rfl) (fun _ _ _ h => h) (Or.inl ⟨by rfl, ?_⟩) hHeld ?_
      rotate_left
      ·intro w hSw1
       try dsimp only at hSw1
       go_simp
       try (with_reducible rfl)
      try simp only [Act.put, LsA, LsB, LsC, LsD, LsE, LsF]
      refine wpAnyH_take (i := 7) (v := ?_) rfl (by kernel_rfl) (by kernel_rfl) (by kernel_rfl) (fun _ _ _ h => h) (Or.inl ⟨by rfl, ?_⟩) hHeld ?_
      rotate_left
      ·intro w hSw1
       have tc := hSw1.out.cell
       have t0 := tc 0
       have t1 := tc 1
       have t2 := tc 2
       have t3 := tc 3
       have t4 := tc 4
       have t5 := tc 5
       have t6 := tc 6
       clear tc
       simp only [dac, List.getElem?_toArray, List.getElem?_cons_zero, List.getElem?_cons_succ] at t0 t1 t2 t3 t4 t5 t6
       have tl := hSw1.out.lt
       go_simp
       try (with_reducible rfl)
      try simp only [Act.put, LsA, LsB, LsC, LsD, LsE, LsF]
      refine wpAnyH_ready (rs := [4]) (by kernel_rfl) (by simp) ?_
      refine AllReadyH.cons rfl (fun K hK => ?_) AllReadyH.nil
      go_simp
      refine (rtx_any d.fr _).mono ?_; rintro e X20 ⟨rfl, kk⟩; have C20 := Lib.hid (D19.out.quiet kk); clear kk
      go_wp2_with fail
      refine hK.out _ _ (Lib.hid C20.out.blk) (fun hHeld2 => ?_)
      clear hK K hHeld
      try simp only [Act.put, LsA, LsB, LsC, LsD, LsE, LsF]
      refine wpAnyH_ready (rs := [8]) (by kernel_rfl) (by simp) ?_
      refine AllReadyH.cons rfl (fun K hK => ?_) AllReadyH.nil
      go_simp
      refine (rtx_any d.to_ _).mono ?_; rintro e X21 ⟨rfl, kk⟩; have C21 := Lib.hid (C20.out.quiet kk); clear kk
      go_wp2_with fail
      refine hK.out _ _ (Lib.hid C21.out.blk) (fun hHeld3 => ?_)
      clear hK K hHeld2
      try simp only [Act.put, LsA, LsB, LsC, LsD, LsE, LsF]
      refine wpAnyH_ready (rs := [9]) (by kernel_rfl) (by simp) ?_
      refine AllReadyH.cons rfl (fun K hK => ?_) AllReadyH.nil
      go_simp; go_wp2_with fail; refine letterQ (K := K) ?_; intro U hU; obtain ⟨g22, hg⟩ : ∃ g, g = X21.heap.size := ⟨_, rfl⟩; have B22 : Hid (Ib w U eb 108 (dac d).toArray a18 (n0 + 1) c18 (L0 ++ [nI d.kind]) ∧ Rd U 4 (some ⟨g22, 0, none⟩) 2 (itcs [tI d.fr, tI d.to_])) := Lib.hid (by rw [hU, hg]; exact ⟨C21.out.alloc _, rd_blk' (xs := itcs [tI d.fr, tI d.to_]) (Blk.new X21 88 _) 4 2 rfl⟩); try rw [← hg]; clear hU hg
      refine hK.out _ _ (Lib.hid B22.out.1.blk) (fun hHeld4 => ?_)
      clear hK K hHeld3
      try simp only [Act.put, LsA, LsB, LsC, LsD, LsE, LsF]
      refine wpAnyH_ready (rs := [10]) (by kernel_rfl) (by simp) ?_
      refine AllReadyH.cons rfl (fun K hK => ?_) AllReadyH.nil
      refine step_append_row rfl (.tmp 47) (.tmp 56) 89 89 rfl 88 i0 _ 4 40 Try.underlying89 HI.out.1 HI.out.2.1 HI.out.2.2.1 HI.out.2.2.2 rfl rfl B22.out.1.row rfl (Src.rd (n := 2) 89 88 Try.underlying89 B22.out.2 (itcs_one _)) (by unfold maxLen; omega) (by omega) (by omega) ?_; intro a22 c22 w22 hr st; have A22 : Hid (Ib w w22 eb 108 (dac d).toArray a22 ((n0 + 1) + 2) c22 ((L0 ++ [nI d.kind]) ++ [tI d.fr, tI d.to_])) := Lib.hid (B22.out.1.app hr st); clear hr st
      refine hK.out _ _ (Lib.hid A22.out.blk) (fun hHeld5 => ?_)
      clear hK K hHeld4
      try simp only [Act.put, LsA, LsB, LsC, LsD, LsE, LsF]
      refine wpAnyH_take (i := 11) (v := ?_) rfl (by kernel_rfl) (by kernel_rfl) (by kernel_rfl) (fun _ _ _ h => h) (Or.inl ⟨by rfl, ?_⟩) hHeld5 ?_
      rotate_left
      ·intro w hSw1
       try dsimp only at hSw1
       go_simp
       try (with_reducible rfl)
      try simp only [Act.put, LsA, LsB, LsC, LsD, LsE, LsF]
      refine wpAnyH_done (by kernel_rfl) ?_ _
      have zc := A22.out.blk.cell
      have z0 := zc 0
      clear zc
      simp only [dac, List.getElem?_toArray, List.getElem?_cons_zero, List.getElem?_cons_succ] at z0
      have zl := A22.out.blk.lt
      go_wp2_with fail
      go_roundw
      case rel => exact ⟨k + 1, a22, ((n0 + 1) + 2), c22, by omega, by omega, by go_num, rfl, HL1.out, Lib.hid (by rw [fm_step _ _ _ HX.out, ← List.cons_append, ← HL.out]; have hz := A22.out.il; simpa [daIts, HKD.out, List.append_assoc] using hz)⟩
      case measure => simp [intOf]; omega
     ·skip
      have HB : Hid (l.any badA = true) := Lib.hid (List.any_eq_true.2 ⟨d, List.mem_of_getElem? HX.out, by simp [badA, h1, h2, h3]⟩)
      have zc := E0.out.blk.cell
      have z0 := zc 0
      clear zc
      simp only [dac, List.getElem?_toArray, List.getElem?_cons_zero, List.getElem?_cons_succ] at z0
      have zl := E0.out.blk.lt
      have hst : Step [] [] w W0 := E0.out.st.drop (by simp)
      have HST := Lib.hid hst
      clear hst
      by_cases u1 : d.kind < 1
      ·clear h1 h2 h3
       go_wp2_with fail
       exact bodyPost_ret (results_tmp2 rfl _ _ _) rfl ⟨.inl ⟨HB.out, rfl⟩, HST.out⟩
      ·have u2 : (3 : Int) < d.kind := by omega
       clear h1 h2 h3
       go_wp2_with fail
       exact bodyPost_ret (results_tmp2 rfl _ _ _) rfl ⟨.inl ⟨HB.out, rfl⟩, HST.out⟩
  ·obtain rfl : k = l.length := by omega
   have hnl : ¬ (l.length : Int) < l.length := by omega
   have HQ : Hid (l.any badA = false ∧ Il w W a0 n0 c0 (dasIts l)) := Lib.hid (by have q1 := HNB.out; have q2 := HW.out; rw [List.take_length] at q1 q2; exact ⟨q1, q2⟩)
   have hle := HQ.out.2.len
   subst hle
   clear HW HNB
   go_wp2_with fail
   exact bodyPost_ret (results_tmp2 rfl _ _ _) rfl ⟨.inr ⟨HQ.out.1, a0, c0, rfl, HQ.out.2.row.rd, fun g hg => by rcases HQ.out.2.st.fresh g hg with h | h <;> first | exact h | cases h⟩, HQ.out.2.st.drop (by simp)⟩
end Go.Proofs.Ytjfaplmojpldhaa
