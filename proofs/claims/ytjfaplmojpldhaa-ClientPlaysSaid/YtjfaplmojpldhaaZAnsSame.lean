/-
 The reference's SameAnswer of two like answers; heavy. Condition: at most 2^21 outs and pairs.
-/
import Derived.Test.YtjfaplmojpldhaaZGD
import Derived.Test.YtjfaplmojpldhaaZReqP
namespace Go.Proofs.Ytjfaplmojpldhaa
open Go.RowKit
set_option linter.unusedSimpArgs false
set_option linter.unusedVariables false
set_option maxRecDepth 100000

theorem neq_pair (x : Pr) (w : World) : (binOp .neq 115 (.agg #[Str x.key, Str x.val, .int .i64 x.made, .int .i64 x.rev]) (.agg #[Str x.key, Str x.val, .int .i64 x.made, .int .i64 x.rev])).run Try.prog w = .ok (.bool false) w := by
 go_simp
set_option maxHeartbeats 4000000 in
theorem samePrs_any (l : List Pr) (a1 a2 : Option Addr) (c1 c2 : Nat) (w : World) (h1 : Rd w 4 a1 l.length (prcs l)) (h2 : Rd w 4 a2 l.length (prcs l)) (hl : l.length ≤ 2097152) : Calls Try.prog 85 #[.slice a1 l.length c1, .slice a2 l.length c2] w fun e w' => e = .returned (.bool true) ∧ Step [] [] w w' := by
 have H0 := Lib.hid (And.intro h1 h2)
 clear h1 h2
 go_enter Try.func85, Try.ntmps85
 go_wp2_with fail
 go_loopw [5] (fun v W => ∃ k : Nat, v = .int .i64 k ∧ k ≤ l.length ∧ Hid (Step [] [] w W)) (fun v _ => l.length - (intOf v).toNat)
 case atStart => exact ⟨0, rfl, by omega, Step.refl _ _⟩
 case round =>
  rename World => W
  obtain ⟨k, rfl, hk, HW⟩ := hrel
  by_cases hlt : k < l.length
  ·have hlt' : (k : Int) < l.length := by omega
   obtain ⟨e, he⟩ : ∃ e, l[k]? = some e := ⟨_, List.getElem?_eq_getElem hlt⟩
   have r1 := H0.out.1.step0 HW.out
   have r2 := H0.out.2.step0 HW.out
   obtain ⟨g, off, hs1⟩ := r1.some_ (by omega)
   obtain ⟨g2, off2, hs2⟩ := r2.some_ (by omega)
   rw [hs1] at r1
   rw [hs2] at r2
   have q1 := rd_pr r1 he
   have q2 := rd_pr r2 he
   have gl : g < W.heap.size := by have := World.block_lt_of_cell? _ _ q1.1; simpa using this
   have gl2 : g2 < W.heap.size := by have := World.block_lt_of_cell? _ _ q2.1; simpa using this
   have hq := neq_pair e
   clear r1 r2 he
   subst hs1 hs2
   go_wp2_with fail
   go_quiet (fail)
   clear hq q1 q2 gl gl2
   go_wp2_with fail
   go_roundw
   case rel => exact ⟨k + 1, by go_num, by omega, HW.out.drewN _⟩
   case measure => simp [intOf]; omega
  ·have hnl : ¬ (k : Int) < l.length := by omega
   go_wp2_with fail
   exact bodyPost_ret (results_tmp rfl _ _ _) rfl ⟨rfl, HW.out⟩
set_option maxHeartbeats 4000000 in
theorem sameOuts_any (m1 m2 : List Om) (a1 a2 : Option Addr) (c1 c2 : Nat) (w : World) (h1 : RdO w a1 m1) (h2 : RdO w a2 m2) (h3 : m1.map (·.o) = m2.map (·.o)) (hn : m1.length ≤ 2097152) (hl : ∀ d ∈ m1, d.o.pairs.length ≤ 2097152) : Calls Try.prog 76 #[.slice a1 m1.length c1, .slice a2 m2.length c2] w fun e w' => e = .returned (.bool true) ∧ Step [] [] w w' := by
 have hml : m1.length = m2.length := by have := congrArg List.length h3; simpa using this
 have H0 := Lib.hid (And.intro h1 (And.intro h2 (And.intro h3 hl)))
 have HML := Lib.hid hml
 have hmb : m1.length ≤ 2097152 := hn
 clear h1 h2 h3 hl hn
 rw [← hml]
 clear hml
 go_enter Try.func76, Try.ntmps76
 go_wp2_with fail
 go_loopw [5] (fun v W => ∃ k : Nat, v = .int .i64 k ∧ k ≤ m1.length ∧ Hid (Step [] [] w W)) (fun v _ => m1.length - (intOf v).toNat)
 case atStart => exact ⟨0, rfl, by omega, Step.refl _ _⟩
 case round =>
  rename World => W
  obtain ⟨k, rfl, hk, HW⟩ := hrel
  by_cases hlt : k < m1.length
  ·have hlt' : (k : Int) < m1.length := by omega
   obtain ⟨e1, he1⟩ : ∃ e, m1[k]? = some e := ⟨_, List.getElem?_eq_getElem hlt⟩
   obtain ⟨e2, he2⟩ : ∃ e, m2[k]? = some e := ⟨_, List.getElem?_eq_getElem (by rw [← HML.out]; exact hlt)⟩
   have heq : e2.o = e1.o := by
    have h := congrArg (fun l => l[k]?) H0.out.2.2.1
    simp only [List.getElem?_map, he1, he2, Option.map_some] at h
    injection h with h
    exact h.symm
   have HX := Lib.hid (And.intro he1 (And.intro he2 heq))
   have HP : Hid (Rd w 4 e1.a e1.o.pairs.length (prcs e1.o.pairs) ∧ Rd w 4 e2.a e1.o.pairs.length (prcs e1.o.pairs)) := Lib.hid ⟨H0.out.1.prs _ (List.mem_of_getElem? he1), by have h := H0.out.2.1.prs _ (List.mem_of_getElem? he2); rw [heq] at h; exact h⟩
   have HL : Hid (e1.o.pairs.length ≤ 2097152) := Lib.hid (H0.out.2.2.2 _ (List.mem_of_getElem? he1))
   obtain ⟨g, off, hs1⟩ := (H0.out.1.row).some_ (by omega)
   obtain ⟨g2, off2, hs2⟩ := (H0.out.2.1.row).some_ (by have := HML.out; omega)
   clear he1 he2 heq
   subst hs1 hs2
   go_upto_region 6 with fail
   refine wp_region_held_drew (S := fun U => Hid (Step [] [] W U)) (by kernel_rfl) (Lib.hid ((Step.refl [] W).drew)) (fun hHeld => ?_)
   refine wpAnyH_take (i := 0) (v := ?_) rfl (by kernel_rfl) (by kernel_rfl) (by kernel_rfl) (fun _ _ _ h => h) (Or.inl ⟨by rfl, ?_⟩) hHeld ?_
   rotate_left
   ·intro w hSw1
    try dsimp only at hSw1
    go_simp
    try (with_reducible rfl)
   try simp only [Act.put, LsA, LsB, LsC, LsD, LsE, LsF]
   refine wpAnyH_take (i := 1) (v := ?_) rfl (by kernel_rfl) (by kernel_rfl) (by kernel_rfl) (fun _ _ _ h => h) (Or.inl ⟨by rfl, ?_⟩) hHeld ?_
   rotate_left
   ·intro w hSw1
    try dsimp only at hSw1
    go_simp
    try (with_reducible rfl)
   try simp only [Act.put, LsA, LsB, LsC, LsD, LsE, LsF]
   refine wpAnyH_take (i := 2) (v := ?_) rfl (by kernel_rfl) (by kernel_rfl) (by kernel_rfl) (fun _ _ _ h => h) (Or.inl ⟨by rfl, ?_⟩) hHeld ?_
   rotate_left
   ·intro w hSw1
    try dsimp only at hSw1
    go_simp
    try (with_reducible rfl)
   try simp only [Act.put, LsA, LsB, LsC, LsD, LsE, LsF]
   refine wpAnyH_take (i := 3) (v := ?_) rfl (by kernel_rfl) (by kernel_rfl) (by kernel_rfl) (fun _ _ _ h => h) (Or.inl ⟨by rfl, ?_⟩) hHeld ?_
   rotate_left
   ·intro w hSw1
    try dsimp only at hSw1
    go_simp
    try (with_reducible rfl)
   try simp only [Act.put, LsA, LsB, LsC, LsD, LsE, LsF]
   refine wpAnyH_take (i := 4) (v := ?_) rfl (by kernel_rfl) (by kernel_rfl) (by kernel_rfl) (fun _ _ _ h => h) (Or.inl ⟨by rfl, ?_⟩) hHeld ?_
   rotate_left
   ·intro w hSw1
    have z1 := rd_om ((H0.out.1.row).step0 (HW.out.trans hSw1.out)) HX.out.1
    have z2 := rd_om ((H0.out.2.1.row).step0 (HW.out.trans hSw1.out)) HX.out.2.1
    rw [HX.out.2.2] at z2
    have gl := World.block_lt_of_cell? _ _ z1.1
    have gl2 := World.block_lt_of_cell? _ _ z2.1
    simp only at gl gl2
    go_simp
    try (with_reducible rfl)
   try simp only [Act.put, LsA, LsB, LsC, LsD, LsE, LsF]
   refine wpAnyH_take (i := 5) (v := ?_) rfl (by kernel_rfl) (by kernel_rfl) (by kernel_rfl) (fun _ _ _ h => h) (Or.inl ⟨by rfl, ?_⟩) hHeld ?_
   rotate_left
   ·intro w hSw1
    try dsimp only at hSw1
    go_simp
    try (with_reducible rfl)
   try simp only [Act.put, LsA, LsB, LsC, LsD, LsE, LsF]
   refine wpAnyH_take (i := 6) (v := ?_) rfl (by kernel_rfl) (by kernel_rfl) (by kernel_rfl) (fun _ _ _ h => h) (Or.inl ⟨by rfl, ?_⟩) hHeld ?_
   rotate_left
   ·intro w hSw1
    try dsimp only at hSw1
    go_simp
    try (with_reducible rfl)
   try simp only [Act.put, LsA, LsB, LsC, LsD, LsE, LsF]
   refine wpAnyH_take (i := 7) (v := ?_) rfl (by kernel_rfl) (by kernel_rfl) (by kernel_rfl) (fun _ _ _ h => h) (Or.inl ⟨by rfl, ?_⟩) hHeld ?_
   rotate_left
   ·intro w hSw1
    try dsimp only at hSw1
    go_simp
    try (with_reducible rfl)
   try simp only [Act.put, LsA, LsB, LsC, LsD, LsE, LsF]
   refine wpAnyH_take (i := 8) (v := ?_) rfl (by kernel_rfl) (by kernel_rfl) (by kernel_rfl) (fun _ _ _ h => h) (Or.inl ⟨by rfl, ?_⟩) hHeld ?_
   rotate_left
   ·intro w hSw1
    try dsimp only at hSw1
    go_simp
    try (with_reducible rfl)
   try simp only [Act.put, LsA, LsB, LsC, LsD, LsE, LsF]
   refine wpAnyH_take (i := 9) (v := ?_) rfl (by kernel_rfl) (by kernel_rfl) (by kernel_rfl) (fun _ _ _ h => h) (Or.inl ⟨by rfl, ?_⟩) hHeld ?_
   rotate_left
   ·intro w hSw1
    have z1 := rd_om ((H0.out.1.row).step0 (HW.out.trans hSw1.out)) HX.out.1
    have z2 := rd_om ((H0.out.2.1.row).step0 (HW.out.trans hSw1.out)) HX.out.2.1
    rw [HX.out.2.2] at z2
    have gl := World.block_lt_of_cell? _ _ z1.1
    have gl2 := World.block_lt_of_cell? _ _ z2.1
    simp only at gl gl2
    go_simp
    try (with_reducible rfl)
   try simp only [Act.put, LsA, LsB, LsC, LsD, LsE, LsF]
   refine wpAnyH_take (i := 10) (v := ?_) rfl (by kernel_rfl) (by kernel_rfl) (by kernel_rfl) (fun _ _ _ h => h) (Or.inl ⟨by rfl, ?_⟩) hHeld ?_
   rotate_left
   ·intro w hSw1
    try dsimp only at hSw1
    go_simp
    try (with_reducible rfl)
   try simp only [Act.put, LsA, LsB, LsC, LsD, LsE, LsF]
   refine wpAnyH_take (i := 11) (v := ?_) rfl (by kernel_rfl) (by kernel_rfl) (by kernel_rfl) (fun _ _ _ h => h) (Or.inl ⟨by rfl, ?_⟩) hHeld ?_
   rotate_left
   ·intro w hSw1
    try dsimp only at hSw1
    go_simp
    try (with_reducible rfl)
   try simp only [Act.put, LsA, LsB, LsC, LsD, LsE, LsF]
   refine wpAnyH_take (i := 12) (v := ?_) rfl (by kernel_rfl) (by kernel_rfl) (by kernel_rfl) (fun _ _ _ h => h) (Or.inl ⟨by rfl, ?_⟩) hHeld ?_
   rotate_left
   ·intro w hSw1
    try dsimp only at hSw1
    go_simp
    try (with_reducible rfl)
   try simp only [Act.put, LsA, LsB, LsC, LsD, LsE, LsF]
   refine wpAnyH_take (i := 13) (v := ?_) rfl (by kernel_rfl) (by kernel_rfl) (by kernel_rfl) (fun _ _ _ h => h) (Or.inl ⟨by rfl, ?_⟩) hHeld ?_
   rotate_left
   ·intro w hSw1
    try dsimp only at hSw1
    go_simp
    try (with_reducible rfl)
   try simp only [Act.put, LsA, LsB, LsC, LsD, LsE, LsF]
   refine wpAnyH_take (i := 14) (v := ?_) rfl (by kernel_rfl) (by kernel_rfl) (by kernel_rfl) (fun _ _ _ h => h) (Or.inl ⟨by rfl, ?_⟩) hHeld ?_
   rotate_left
   ·intro w hSw1
    try dsimp only at hSw1
    go_simp
    try (with_reducible rfl)
   try simp only [Act.put, LsA, LsB, LsC, LsD, LsE, LsF]
   refine wpAnyH_take (i := 15) (v := ?_) rfl (by kernel_rfl) (by kernel_rfl) (by kernel_rfl) (fun _ _ _ h => h) (Or.inl ⟨by rfl, ?_⟩) hHeld ?_
   rotate_left
   ·intro w hSw1
    try dsimp only at hSw1
    go_simp
    try (with_reducible rfl)
   try simp only [Act.put, LsA, LsB, LsC, LsD, LsE, LsF]
   refine wpAnyH_take (i := 16) (v := ?_) rfl (by kernel_rfl) (by kernel_rfl) (by kernel_rfl) (fun _ _ _ h => h) (Or.inl ⟨by rfl, ?_⟩) hHeld ?_
   rotate_left
   ·intro w hSw1
    have z1 := rd_om ((H0.out.1.row).step0 (HW.out.trans hSw1.out)) HX.out.1
    have z2 := rd_om ((H0.out.2.1.row).step0 (HW.out.trans hSw1.out)) HX.out.2.1
    rw [HX.out.2.2] at z2
    have gl := World.block_lt_of_cell? _ _ z1.1
    have gl2 := World.block_lt_of_cell? _ _ z2.1
    simp only at gl gl2
    go_simp
    try (with_reducible rfl)
   try simp only [Act.put, LsA, LsB, LsC, LsD, LsE, LsF]
   refine wpAnyH_take (i := 17) (v := ?_) rfl (by kernel_rfl) (by kernel_rfl) (by kernel_rfl) (fun _ _ _ h => h) (Or.inl ⟨by rfl, ?_⟩) hHeld ?_
   rotate_left
   ·intro w hSw1
    try dsimp only at hSw1
    go_simp
    try (with_reducible rfl)
   try simp only [Act.put, LsA, LsB, LsC, LsD, LsE, LsF]
   refine wpAnyH_take (i := 18) (v := ?_) rfl (by kernel_rfl) (by kernel_rfl) (by kernel_rfl) (fun _ _ _ h => h) (Or.inl ⟨by rfl, ?_⟩) hHeld ?_
   rotate_left
   ·intro w hSw1
    try dsimp only at hSw1
    go_simp
    try (with_reducible rfl)
   try simp only [Act.put, LsA, LsB, LsC, LsD, LsE, LsF]
   refine wpAnyH_take (i := 19) (v := ?_) rfl (by kernel_rfl) (by kernel_rfl) (by kernel_rfl) (fun _ _ _ h => h) (Or.inl ⟨by rfl, ?_⟩) hHeld ?_
   rotate_left
   ·intro w hSw1
    try dsimp only at hSw1
    go_simp
    try (with_reducible rfl)
   try simp only [Act.put, LsA, LsB, LsC, LsD, LsE, LsF]
   refine wpAnyH_take (i := 20) (v := ?_) rfl (by kernel_rfl) (by kernel_rfl) (by kernel_rfl) (fun _ _ _ h => h) (Or.inl ⟨by rfl, ?_⟩) hHeld ?_
   rotate_left
   ·intro w hSw1
    try dsimp only at hSw1
    go_simp
    try (with_reducible rfl)
   try simp only [Act.put, LsA, LsB, LsC, LsD, LsE, LsF]
   refine wpAnyH_take (i := 21) (v := ?_) rfl (by kernel_rfl) (by kernel_rfl) (by kernel_rfl) (fun _ _ _ h => h) (Or.inl ⟨by rfl, ?_⟩) hHeld ?_
   rotate_left
   ·intro w hSw1
    have z1 := rd_om ((H0.out.1.row).step0 (HW.out.trans hSw1.out)) HX.out.1
    have z2 := rd_om ((H0.out.2.1.row).step0 (HW.out.trans hSw1.out)) HX.out.2.1
    rw [HX.out.2.2] at z2
    have gl := World.block_lt_of_cell? _ _ z1.1
    have gl2 := World.block_lt_of_cell? _ _ z2.1
    simp only at gl gl2
    go_simp
    try (with_reducible rfl)
   try simp only [Act.put, LsA, LsB, LsC, LsD, LsE, LsF]
   refine wpAnyH_take (i := 22) (v := ?_) rfl (by kernel_rfl) (by kernel_rfl) (by kernel_rfl) (fun _ _ _ h => h) (Or.inl ⟨by rfl, ?_⟩) hHeld ?_
   rotate_left
   ·intro w hSw1
    try dsimp only at hSw1
    go_simp
    try (with_reducible rfl)
   try simp only [Act.put, LsA, LsB, LsC, LsD, LsE, LsF]
   refine wpAnyH_take (i := 23) (v := ?_) rfl (by kernel_rfl) (by kernel_rfl) (by kernel_rfl) (fun _ _ _ h => h) (Or.inl ⟨by rfl, ?_⟩) hHeld ?_
   rotate_left
   ·intro w hSw1
    try dsimp only at hSw1
    go_simp
    try (with_reducible rfl)
   try simp only [Act.put, LsA, LsB, LsC, LsD, LsE, LsF]
   refine wpAnyH_take (i := 24) (v := ?_) rfl (by kernel_rfl) (by kernel_rfl) (by kernel_rfl) (fun _ _ _ h => h) (Or.inl ⟨by rfl, ?_⟩) hHeld ?_
   rotate_left
   ·intro w hSw1
    try dsimp only at hSw1
    go_simp
    try (with_reducible rfl)
   try simp only [Act.put, LsA, LsB, LsC, LsD, LsE, LsF]
   refine wpAnyH_take (i := 25) (v := ?_) rfl (by kernel_rfl) (by kernel_rfl) (by kernel_rfl) (fun _ _ _ h => h) (Or.inl ⟨by rfl, ?_⟩) hHeld ?_
   rotate_left
   ·intro w hSw1
    try dsimp only at hSw1
    go_simp
    try (with_reducible rfl)
   try simp only [Act.put, LsA, LsB, LsC, LsD, LsE, LsF]
   refine wpAnyH_take (i := 26) (v := ?_) rfl (by kernel_rfl) (by kernel_rfl) (by kernel_rfl) (fun _ _ _ h => h) (Or.inl ⟨by rfl, ?_⟩) hHeld ?_
   rotate_left
   ·intro w hSw1
    try dsimp only at hSw1
    go_simp
    try (with_reducible rfl)
   try simp only [Act.put, LsA, LsB, LsC, LsD, LsE, LsF]
   refine wpAnyH_take (i := 27) (v := ?_) rfl (by kernel_rfl) (by kernel_rfl) (by kernel_rfl) (fun _ _ _ h => h) (Or.inl ⟨by rfl, ?_⟩) hHeld ?_
   rotate_left
   ·intro w hSw1
    try dsimp only at hSw1
    go_simp
    try (with_reducible rfl)
   try simp only [Act.put, LsA, LsB, LsC, LsD, LsE, LsF]
   refine wpAnyH_take (i := 28) (v := ?_) rfl (by kernel_rfl) (by kernel_rfl) (by kernel_rfl) (fun _ _ _ h => h) (Or.inl ⟨by rfl, ?_⟩) hHeld ?_
   rotate_left
   ·intro w hSw1
    try dsimp only at hSw1
    go_simp
    try (with_reducible rfl)
   try simp only [Act.put, LsA, LsB, LsC, LsD, LsE, LsF]
   refine wpAnyH_take (i := 29) (v := ?_) rfl (by kernel_rfl) (by kernel_rfl) (by kernel_rfl) (fun _ _ _ h => h) (Or.inl ⟨by rfl, ?_⟩) hHeld ?_
   rotate_left
   ·intro w hSw1
    have z1 := rd_om ((H0.out.1.row).step0 (HW.out.trans hSw1.out)) HX.out.1
    have z2 := rd_om ((H0.out.2.1.row).step0 (HW.out.trans hSw1.out)) HX.out.2.1
    rw [HX.out.2.2] at z2
    have gl := World.block_lt_of_cell? _ _ z1.1
    have gl2 := World.block_lt_of_cell? _ _ z2.1
    simp only at gl gl2
    go_simp
    try (with_reducible rfl)
   try simp only [Act.put, LsA, LsB, LsC, LsD, LsE, LsF]
   refine wpAnyH_take (i := 30) (v := ?_) rfl (by kernel_rfl) (by kernel_rfl) (by kernel_rfl) (fun _ _ _ h => h) (Or.inl ⟨by rfl, ?_⟩) hHeld ?_
   rotate_left
   ·intro w hSw1
    try dsimp only at hSw1
    go_simp
    try (with_reducible rfl)
   try simp only [Act.put, LsA, LsB, LsC, LsD, LsE, LsF]
   refine wpAnyH_take (i := 31) (v := ?_) rfl (by kernel_rfl) (by kernel_rfl) (by kernel_rfl) (fun _ _ _ h => h) (Or.inl ⟨by rfl, ?_⟩) hHeld ?_
   rotate_left
   ·intro w hSw1
    try dsimp only at hSw1
    go_simp
    try (with_reducible rfl)
   try simp only [Act.put, LsA, LsB, LsC, LsD, LsE, LsF]
   refine wpAnyH_take (i := 32) (v := ?_) rfl (by kernel_rfl) (by kernel_rfl) (by kernel_rfl) (fun _ _ _ h => h) (Or.inl ⟨by rfl, ?_⟩) hHeld ?_
   rotate_left
   ·intro w hSw1
    try dsimp only at hSw1
    go_simp
    try (with_reducible rfl)
   try simp only [Act.put, LsA, LsB, LsC, LsD, LsE, LsF]
   refine wpAnyH_take (i := 33) (v := ?_) rfl (by kernel_rfl) (by kernel_rfl) (by kernel_rfl) (fun _ _ _ h => h) (Or.inl ⟨by rfl, ?_⟩) hHeld ?_
   rotate_left
   ·intro w hSw1
    try dsimp only at hSw1
    go_simp
    try (with_reducible rfl)
   try simp only [Act.put, LsA, LsB, LsC, LsD, LsE, LsF]
   refine wpAnyH_take (i := 34) (v := ?_) rfl (by kernel_rfl) (by kernel_rfl) (by kernel_rfl) (fun _ _ _ h => h) (Or.inl ⟨by rfl, ?_⟩) hHeld ?_
   rotate_left
   ·intro w hSw1
    have z1 := rd_om ((H0.out.1.row).step0 (HW.out.trans hSw1.out)) HX.out.1
    have z2 := rd_om ((H0.out.2.1.row).step0 (HW.out.trans hSw1.out)) HX.out.2.1
    rw [HX.out.2.2] at z2
    have gl := World.block_lt_of_cell? _ _ z1.1
    have gl2 := World.block_lt_of_cell? _ _ z2.1
    simp only at gl gl2
    go_simp
    try (with_reducible rfl)
   try simp only [Act.put, LsA, LsB, LsC, LsD, LsE, LsF]
   refine wpAnyH_ready (rs := [35]) (by kernel_rfl) (by simp) ?_
   refine AllReadyH.cons rfl (fun K hK => ?_) AllReadyH.nil
   go_simp
   refine (samePrs_any e1.o.pairs e1.a e2.a e1.c e2.c _ (HP.out.1.step0 (HW.out.trans hHeld.out)) (HP.out.2.step0 (HW.out.trans hHeld.out)) HL.out).mono ?_; rintro e Z ⟨rfl, kz⟩; have G1 := Lib.hid (hHeld.out.trans kz); clear kz
   go_wp2_with fail
   refine hK.out _ _ (Lib.hid G1.out) (fun hHeld2 => ?_)
   clear hK K hHeld
   try simp only [Act.put, LsA, LsB, LsC, LsD, LsE, LsF]
   refine wpAnyH_take (i := 36) (v := ?_) rfl (by kernel_rfl) (by kernel_rfl) (by kernel_rfl) (fun _ _ _ h => h) (Or.inl ⟨by rfl, ?_⟩) hHeld2 ?_
   rotate_left
   ·intro w hSw1
    try dsimp only at hSw1
    go_simp
    try (with_reducible rfl)
   try simp only [Act.put, LsA, LsB, LsC, LsD, LsE, LsF]
   refine wpAnyH_take (i := 37) (v := ?_) rfl (by kernel_rfl) (by kernel_rfl) (by kernel_rfl) (fun _ _ _ h => h) (Or.inl ⟨by rfl, ?_⟩) hHeld2 ?_
   rotate_left
   ·intro w hSw1
    try dsimp only at hSw1
    go_simp
    try (with_reducible rfl)
   try simp only [Act.put, LsA, LsB, LsC, LsD, LsE, LsF]
   refine wpAnyH_done (by kernel_rfl) ?_ _
   go_wp2_with fail
   go_roundw
   case rel => exact ⟨k + 1, by go_num, by omega, Lib.hid (HW.out.trans G1.out)⟩
   case measure => simp [intOf]; omega
  ·have hnl : ¬ (k : Int) < m1.length := by omega
   go_wp2_with fail
   exact bodyPost_ret (results_tmp rfl _ _ _) rfl ⟨rfl, HW.out⟩
set_option maxHeartbeats 4000000 in
theorem sameA_any (x : An) (m1 m2 : List Om) (a1 a2 : Option Addr) (c1 c2 : Nat) (w : World) (h1 : RdO w a1 m1) (h2 : RdO w a2 m2) (h3 : m1.map (·.o) = m2.map (·.o)) (hn : m1.length ≤ 2097152) (hl : ∀ d ∈ m1, d.o.pairs.length ≤ 2097152) : Calls Try.prog 45 #[anV x (.slice a1 m1.length c1), anV x (.slice a2 m2.length c2)] w fun e w' => e = .returned (.bool true) ∧ Step [] [] w w' := by
 have H00 : Hid (Blk ((w.alloc (.cells (anc x (.slice a1 m1.length c1)).toArray 54)).alloc (.cells (anc x (.slice a2 m2.length c2)).toArray 54)) w.heap.size 54 (anc x (.slice a1 m1.length c1)).toArray ∧ Blk ((w.alloc (.cells (anc x (.slice a1 m1.length c1)).toArray 54)).alloc (.cells (anc x (.slice a2 m2.length c2)).toArray 54)) (w.heap.size + 1) 54 (anc x (.slice a2 m2.length c2)).toArray ∧ RdO ((w.alloc (.cells (anc x (.slice a1 m1.length c1)).toArray 54)).alloc (.cells (anc x (.slice a2 m2.length c2)).toArray 54)) a1 m1 ∧ RdO ((w.alloc (.cells (anc x (.slice a1 m1.length c1)).toArray 54)).alloc (.cells (anc x (.slice a2 m2.length c2)).toArray 54)) a2 m2 ∧ Step [] [] w ((w.alloc (.cells (anc x (.slice a1 m1.length c1)).toArray 54)).alloc (.cells (anc x (.slice a2 m2.length c2)).toArray 54))) := Lib.hid ⟨(blk2c w _ _ _ _).1, (blk2c w _ _ _ _).2, h1.step (((Step.refl [] w).alloc _).alloc _), h2.step (((Step.refl [] w).alloc _).alloc _), ((Step.refl [] w).alloc _).alloc _⟩
 have HH := Lib.hid (And.intro h3 (And.intro hn hl))
 clear h1 h2 h3 hn hl
 go_enter Try.func45, Try.ntmps45
 go_upto_region 1 with fail
 change Code.wp _ _ _ _ ((w.alloc (.cells (anc x (.slice a1 m1.length c1)).toArray 54)).alloc (.cells (anc x (.slice a2 m2.length c2)).toArray 54))
 obtain ⟨b1, hb1⟩ : ∃ b1, b1 = w.heap.size := ⟨_, rfl⟩
 obtain ⟨V, hV⟩ : ∃ V, V = ((w.alloc (.cells (anc x (.slice a1 m1.length c1)).toArray 54)).alloc (.cells (anc x (.slice a2 m2.length c2)).toArray 54)) := ⟨_, rfl⟩
 rw [← hV, ← hb1] at H00
 rw [← hV, ← hb1]
 clear hV hb1
 have pc := H00.out.1.cell
 have p0 := pc 0
 have p1 := pc 1
 have p2 := pc 2
 have p3 := pc 3
 have p4 := pc 4
 have p5 := pc 5
 have p6 := pc 6
 clear pc
 simp only [anc, List.getElem?_toArray, List.getElem?_cons_zero, List.getElem?_cons_succ] at p0 p1 p2 p3 p4 p5 p6
 have pl := H00.out.1.lt
 have qc := H00.out.2.1.cell
 have q0 := qc 0
 have q1 := qc 1
 have q2 := qc 2
 have q3 := qc 3
 have q4 := qc 4
 have q5 := qc 5
 have q6 := qc 6
 clear qc
 simp only [anc, List.getElem?_toArray, List.getElem?_cons_zero, List.getElem?_cons_succ] at q0 q1 q2 q3 q4 q5 q6
 have ql := H00.out.2.1.lt
 go_wp2_with fail
 refine (sameOuts_any m1 m2 a1 a2 c1 c2 V H00.out.2.2.1 H00.out.2.2.2.1 HH.out.1 HH.out.2.1 HH.out.2.2).mono ?_
 rintro e Z ⟨rfl, kz⟩
 have HZ := Lib.hid (H00.out.2.2.2.2.trans kz)
 clear kz
 go_wp2_with fail
 exact bodyPost_ret (results_tmp rfl _ _ _) rfl ⟨rfl, HZ.out⟩
/-- What is not heavy. -/
structure LightA (x : An) (m : List Om) : Prop where
 token : x.token.length ≤ 10000
 outs : m.length ≤ 50
 prs : ∀ d ∈ m, d.o.pairs.length ≤ 100 ∧ ∀ p ∈ d.o.pairs, p.key.length ≤ 1000 ∧ p.val.length ≤ 1000
end Go.Proofs.Ytjfaplmojpldhaa
