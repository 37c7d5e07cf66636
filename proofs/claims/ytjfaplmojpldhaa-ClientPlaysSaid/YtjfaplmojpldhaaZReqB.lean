/-
 An Admin with just the fields of its kind. No condition.
-/
import Derived.Test.YtjfaplmojpldhaaZReqA
namespace Go.Proofs.Ytjfaplmojpldhaa
open Go.RowKit
set_option linter.unusedSimpArgs false
set_option linter.unusedVariables false
set_option maxRecDepth 100000

abbrev adV (x : Cm) : Value := .agg #[.int .i64 x.kind, Str x.name, Str x.other, Str x.word, Str x.salt, .int .i64 x.bytes, .int .i64 x.keys, Str x.gf, Str x.gt, .bool x.gr, .bool x.gw]
theorem blk3q (w : World) (t0 t1 t2 : TypeId) (c0 c1 c2 : Array Value) : Blk (((w.alloc (.cells c0 t0)).alloc (.cells c1 t1)).alloc (.cells c2 t2)) w.heap.size t0 c0 ∧ Blk (((w.alloc (.cells c0 t0)).alloc (.cells c1 t1)).alloc (.cells c2 t2)) (w.heap.size + 1) t1 c1 ∧ Blk (((w.alloc (.cells c0 t0)).alloc (.cells c1 t1)).alloc (.cells c2 t2)) (w.heap.size + 1 + 1) t2 c2 := by
 have s1 : ∀ o, (w.alloc o).heap.size = w.heap.size + 1 := fun o => by simp
 have s2 : ∀ o o', ((w.alloc o).alloc o').heap.size = w.heap.size + 1 + 1 := fun o o' => by simp
 refine ⟨((Blk.new w t0 c0).alloc _).alloc _, ?_, ?_⟩
 ·have := (Blk.new (w.alloc (.cells c0 t0)) t1 c1).alloc (.cells c2 t2)
  rwa [s1] at this
 ·have := Blk.new ((w.alloc (.cells c0 t0)).alloc (.cells c1 t1)) t2 c2
  rwa [s2] at this

set_option maxHeartbeats 4000000 in
theorem only4_any (x : Cm) (w : World) (hk : x.kind = 4) : Calls Try.prog 57 #[adV x] w fun e w' => e = .returned (adV (cleanC x)) ∧ Step [] [] w w' := by
 have HK := Lib.hid hk
 have k4 : (x.kind == 4) = true := by simp [hk]
 have k5 : (x.kind == 5) = false := by simp [hk]
 have k6 : (x.kind == 6) = false := by simp [hk]
 have k7 : (x.kind == 7) = false := by simp [hk]
 have k9 : (x.kind == 9) = false := by simp [hk]
 have k13 : (x.kind == 13) = false := by simp [hk]
 have k14 : (x.kind == 14) = false := by simp [hk]
 have k11 : (x.kind == 11) = false := by simp [hk]
 have k12 : (x.kind == 12) = false := by simp [hk]
 have HC := Lib.hid (show adV (cleanC x) = .agg #[.int .i64 x.kind, .string ⟨x.name.toArray⟩, .string ⟨#[]⟩, .string ⟨#[]⟩, .string ⟨#[]⟩, .int .i64 x.bytes, .int .i64 x.keys, .string ⟨#[]⟩, .string ⟨#[]⟩, .bool false, .bool false] by simp [cleanC, onlyC, isK, hasN, hasO, hasW, hasS, hasQ, hasP, hasG, hk])
 clear hk
 go_enter Try.func57, Try.ntmps57
 go_upto_region 2 with fail
 obtain ⟨b, hb⟩ : ∃ b, b = w.heap.size := ⟨_, rfl⟩
 obtain ⟨V, hV⟩ : ∃ V, V = (((w.alloc (.cells #[.int .i64 x.kind, .string ⟨x.name.toArray⟩, .string ⟨x.other.toArray⟩, .string ⟨x.word.toArray⟩, .string ⟨x.salt.toArray⟩, .int .i64 x.bytes, .int .i64 x.keys, .string ⟨x.gf.toArray⟩, .string ⟨x.gt.toArray⟩, .bool x.gr, .bool x.gw] 139)).alloc (.cells #[.int .i64 0, .string ⟨#[]⟩, .string ⟨#[]⟩, .string ⟨#[]⟩, .string ⟨#[]⟩, .int .i64 0, .int .i64 0, .string ⟨#[]⟩, .string ⟨#[]⟩, .bool false, .bool false] 139)).alloc (.cells #[.int .i64 x.kind, .string ⟨x.name.toArray⟩, .string ⟨#[]⟩, .string ⟨#[]⟩, .string ⟨#[]⟩, .int .i64 0, .int .i64 0, .string ⟨#[]⟩, .string ⟨#[]⟩, .bool false, .bool false] 139)) := ⟨_, rfl⟩
 have H1 : Hid (Blk V b 139 #[.int .i64 x.kind, .string ⟨x.name.toArray⟩, .string ⟨x.other.toArray⟩, .string ⟨x.word.toArray⟩, .string ⟨x.salt.toArray⟩, .int .i64 x.bytes, .int .i64 x.keys, .string ⟨x.gf.toArray⟩, .string ⟨x.gt.toArray⟩, .bool x.gr, .bool x.gw] ∧ Blk V (b + 1) 139 #[.int .i64 0, .string ⟨#[]⟩, .string ⟨#[]⟩, .string ⟨#[]⟩, .string ⟨#[]⟩, .int .i64 0, .int .i64 0, .string ⟨#[]⟩, .string ⟨#[]⟩, .bool false, .bool false] ∧ Blk V (b + 1 + 1) 139 #[.int .i64 x.kind, .string ⟨x.name.toArray⟩, .string ⟨#[]⟩, .string ⟨#[]⟩, .string ⟨#[]⟩, .int .i64 0, .int .i64 0, .string ⟨#[]⟩, .string ⟨#[]⟩, .bool false, .bool false] ∧ Step [] [] w V ∧ b = w.heap.size) := by
  rw [hV, hb]
  have Q := blk3q w 139 139 139 #[.int .i64 x.kind, .string ⟨x.name.toArray⟩, .string ⟨x.other.toArray⟩, .string ⟨x.word.toArray⟩, .string ⟨x.salt.toArray⟩, .int .i64 x.bytes, .int .i64 x.keys, .string ⟨x.gf.toArray⟩, .string ⟨x.gt.toArray⟩, .bool x.gr, .bool x.gw] #[.int .i64 0, .string ⟨#[]⟩, .string ⟨#[]⟩, .string ⟨#[]⟩, .string ⟨#[]⟩, .int .i64 0, .int .i64 0, .string ⟨#[]⟩, .string ⟨#[]⟩, .bool false, .bool false] #[.int .i64 x.kind, .string ⟨x.name.toArray⟩, .string ⟨#[]⟩, .string ⟨#[]⟩, .string ⟨#[]⟩, .int .i64 0, .int .i64 0, .string ⟨#[]⟩, .string ⟨#[]⟩, .bool false, .bool false]
  exact ⟨Q.1, Q.2.1, Q.2.2, (((Step.refl [] w).alloc _).alloc _).alloc _, rfl⟩
 rw [← hV, ← hb]
 clear hV hb
 have cc := (H1.out.1).cell
 have c0 := cc 0
 have c1 := cc 1
 have c2 := cc 2
 have c3 := cc 3
 have c4 := cc 4
 have c5 := cc 5
 have c6 := cc 6
 have c7 := cc 7
 have c8 := cc 8
 have c9 := cc 9
 have c10 := cc 10
 clear cc
 simp only [List.getElem?_toArray, List.getElem?_cons_zero, List.getElem?_cons_succ] at c0 c1 c2 c3 c4 c5 c6 c7 c8 c9 c10
 have cl := (H1.out.1).lt
 go_upto_region 5 with fail
 clear c0 c1 c2 c3 c4 c5 c6 c7 c8 c9 c10 cl
 have oc := (H1.out.2.2.1).cell
 have o0 := oc 0
 have o1 := oc 1
 have o2 := oc 2
 have o3 := oc 3
 have o4 := oc 4
 have o5 := oc 5
 have o6 := oc 6
 have o7 := oc 7
 have o8 := oc 8
 have o9 := oc 9
 have o10 := oc 10
 clear oc
 simp only [List.getElem?_toArray, List.getElem?_cons_zero, List.getElem?_cons_succ] at o0 o1 o2 o3 o4 o5 o6 o7 o8 o9 o10
 have ol := (H1.out.2.2.1).lt
 have ofz := (H1.out.2.2.1).frozen
 have of0 := ofz 0
 have of1 := ofz 1
 have of2 := ofz 2
 have of3 := ofz 3
 have of4 := ofz 4
 have of5 := ofz 5
 have of6 := ofz 6
 have of7 := ofz 7
 have of8 := ofz 8
 have of9 := ofz 9
 have of10 := ofz 10
 clear ofz
 refine wp_region_held_drew (S := fun V => Hid (Blk V b 139 #[.int .i64 x.kind, .string ⟨x.name.toArray⟩, .string ⟨x.other.toArray⟩, .string ⟨x.word.toArray⟩, .string ⟨x.salt.toArray⟩, .int .i64 x.bytes, .int .i64 x.keys, .string ⟨x.gf.toArray⟩, .string ⟨x.gt.toArray⟩, .bool x.gr, .bool x.gw])) (by kernel_rfl) (Lib.hid H1.out.1.drew) (fun hHeld => ?_)
 refine wpAnyH_take (i := 0) (v := ?_) rfl (by kernel_rfl) (by kernel_rfl) (by kernel_rfl) (fun _ _ _ h => h) (Or.inl ⟨by rfl, ?_⟩) hHeld ?_
 rotate_left
 ·intro w hSw1
  try dsimp only at hSw1
  go_simp
  try (with_reducible rfl)
 try simp only [Act.put, LsA, LsB, LsC, LsD, LsE, LsF]
 refine wpAnyH_take (i := 1) (v := ?_) rfl (by kernel_rfl) (by kernel_rfl) (by kernel_rfl) (fun _ _ _ h => h) (Or.inl ⟨by rfl, ?_⟩) hHeld ?_
 rotate_left
 ·intro w hSw1
  have c5 := hSw1.out.cell 5
  simp only [List.getElem?_toArray, List.getElem?_cons_zero, List.getElem?_cons_succ] at c5
  have cl := hSw1.out.lt
  go_simp
  try (with_reducible rfl)
 try simp only [Act.put, LsA, LsB, LsC, LsD, LsE, LsF]
 refine wpAnyH_take (i := 2) (v := ?_) rfl (by kernel_rfl) (by kernel_rfl) (by kernel_rfl) (fun _ _ _ h => h) (Or.inl ⟨by rfl, ?_⟩) hHeld ?_
 rotate_left
 ·intro w hSw1
  try dsimp only at hSw1
  go_simp
  try (with_reducible rfl)
 try simp only [Act.put, LsA, LsB, LsC, LsD, LsE, LsF]
 refine wpAnyH_take (i := 3) (v := ?_) rfl (by kernel_rfl) (by kernel_rfl) (by kernel_rfl) (fun _ _ _ h => h) (Or.inl ⟨by rfl, ?_⟩) hHeld ?_
 rotate_left
 ·intro w hSw1
  have c6 := hSw1.out.cell 6
  simp only [List.getElem?_toArray, List.getElem?_cons_zero, List.getElem?_cons_succ] at c6
  have cl := hSw1.out.lt
  go_simp
  try (with_reducible rfl)
 try simp only [Act.put, LsA, LsB, LsC, LsD, LsE, LsF]
 refine wpAnyH_take (i := 4) (v := ?_) rfl (by kernel_rfl) (by kernel_rfl) (by kernel_rfl) (fun _ _ _ h => h) (Or.inl ⟨by rfl, ?_⟩) hHeld ?_
 rotate_left
 ·intro w hSw1
  try dsimp only at hSw1
  go_simp
  try (with_reducible rfl)
 try simp only [Act.put, LsA, LsB, LsC, LsD, LsE, LsF]
 refine wpAnyH_ready (rs := [5]) (by kernel_rfl) (by simp) ?_
 refine AllReadyH.cons rfl (fun K hK => ?_) AllReadyH.nil
 go_simp
 skip
 go_wp2_with fail
 refine hK.out _ _ (Lib.hid (Blk.far (p := ⟨b + 1 + 1, 5, none⟩) hHeld.out (by simp; omega) _)) (fun hHeld2 => ?_)
 clear hK K hHeld
 try simp only [Act.put, LsA, LsB, LsC, LsD, LsE, LsF]
 refine wpAnyH_take (i := 6) (v := ?_) rfl (by kernel_rfl) (by kernel_rfl) (by kernel_rfl) (fun _ _ _ h => h) (Or.inl ⟨by rfl, ?_⟩) hHeld2 ?_
 rotate_left
 ·intro w hSw1
  try dsimp only at hSw1
  go_simp
  try (with_reducible rfl)
 try simp only [Act.put, LsA, LsB, LsC, LsD, LsE, LsF]
 refine wpAnyH_ready (rs := [7]) (by kernel_rfl) (by simp) ?_
 refine AllReadyH.cons rfl (fun K hK => ?_) AllReadyH.nil
 go_simp
 skip
 go_wp2_with fail
 refine hK.out _ _ (Lib.hid (Blk.far (p := ⟨b + 1 + 1, 6, none⟩) hHeld2.out (by simp; omega) _)) (fun hHeld3 => ?_)
 clear hK K hHeld2
 try simp only [Act.put, LsA, LsB, LsC, LsD, LsE, LsF]
 refine wpAnyH_done (by kernel_rfl) ?_ _
 go_upto_region 18 with fail
 obtain ⟨W, hW⟩ : ∃ W, W = ((V.setCell ⟨b + 1 + 1, 5, none⟩ (.int .i64 x.bytes)).setCell ⟨b + 1 + 1, 6, none⟩ (.int .i64 x.keys)).drew := ⟨_, rfl⟩
 have ss0 : Step [b + 1 + 1] [b + 1 + 1] V W := by
  rw [hW]
  refine Step.drew ?_
  iterate 2 refine Step.setCell ?_ (.inl (by simp)) _
  exact Step.refl _ _
 have N : Hid (Blk W (b + 1 + 1) 139 #[.int .i64 x.kind, .string ⟨x.name.toArray⟩, .string ⟨#[]⟩, .string ⟨#[]⟩, .string ⟨#[]⟩, .int .i64 x.bytes, .int .i64 x.keys, .string ⟨#[]⟩, .string ⟨#[]⟩, .bool false, .bool false] ∧ Blk W (b + 1) 139 #[.int .i64 0, .string ⟨#[]⟩, .string ⟨#[]⟩, .string ⟨#[]⟩, .string ⟨#[]⟩, .int .i64 0, .int .i64 0, .string ⟨#[]⟩, .string ⟨#[]⟩, .bool false, .bool false] ∧ Step [] [] w W) := ⟨by rw [hW]; have hq := ((H1.out.2.2.1.set 5 (.int .i64 x.bytes)).set 6 (.int .i64 x.keys)).drew; simpa using hq, H1.out.2.1.step ss0 (by simp), H1.out.2.2.2.1.out1' ss0 (by have := H1.out.2.2.2.2; simp; omega)⟩
 rw [← hW]
 clear hW ss0
 clear o0 o1 o2 o3 o4 o5 o6 o7 o8 o9 o10 ol of0 of1 of2 of3 of4 of5 of6 of7 of8 of9 of10
 have nc := (N.out.1).cell
 have n0 := nc 0
 have n1 := nc 1
 have n2 := nc 2
 have n3 := nc 3
 have n4 := nc 4
 have n5 := nc 5
 have n6 := nc 6
 have n7 := nc 7
 have n8 := nc 8
 have n9 := nc 9
 have n10 := nc 10
 clear nc
 simp only [List.getElem?_toArray, List.getElem?_cons_zero, List.getElem?_cons_succ] at n0 n1 n2 n3 n4 n5 n6 n7 n8 n9 n10
 have nl := (N.out.1).lt
 have zc := (N.out.2.1).cell
 have z0 := zc 0
 have z1 := zc 1
 have z2 := zc 2
 have z3 := zc 3
 have z4 := zc 4
 have z5 := zc 5
 have z6 := zc 6
 have z7 := zc 7
 have z8 := zc 8
 have z9 := zc 9
 have z10 := zc 10
 clear zc
 simp only [List.getElem?_toArray, List.getElem?_cons_zero, List.getElem?_cons_succ] at z0 z1 z2 z3 z4 z5 z6 z7 z8 z9 z10
 have zl := (N.out.2.1).lt
 have zfz := (N.out.2.1).frozen
 have zf0 := zfz 0
 have zf1 := zfz 1
 have zf2 := zfz 2
 have zf3 := zfz 3
 have zf4 := zfz 4
 have zf5 := zfz 5
 have zf6 := zfz 6
 have zf7 := zfz 7
 have zf8 := zfz 8
 have zf9 := zfz 9
 have zf10 := zfz 10
 clear zfz
 go_wp2_with fail
 change bodyPost _ _ _ _ _ (putL W (b + 1) 0 [.int .i64 x.kind, .string ⟨x.name.toArray⟩, .string ⟨#[]⟩, .string ⟨#[]⟩, .string ⟨#[]⟩, .int .i64 x.bytes, .int .i64 x.keys, .string ⟨#[]⟩, .string ⟨#[]⟩, .bool false, .bool false])
 have Q := N.out.2.1.put0 [.int .i64 x.kind, .string ⟨x.name.toArray⟩, .string ⟨#[]⟩, .string ⟨#[]⟩, .string ⟨#[]⟩, .int .i64 x.bytes, .int .i64 x.keys, .string ⟨#[]⟩, .string ⟨#[]⟩, .bool false, .bool false] rfl
 have ss := step_putL (b + 1) [.int .i64 x.kind, .string ⟨x.name.toArray⟩, .string ⟨#[]⟩, .string ⟨#[]⟩, .string ⟨#[]⟩, .int .i64 x.bytes, .int .i64 x.keys, .string ⟨#[]⟩, .string ⟨#[]⟩, .bool false, .bool false] 0 W
 obtain ⟨U, hU⟩ : ∃ U, U = putL W (b + 1) 0 [.int .i64 x.kind, .string ⟨x.name.toArray⟩, .string ⟨#[]⟩, .string ⟨#[]⟩, .string ⟨#[]⟩, .int .i64 x.bytes, .int .i64 x.keys, .string ⟨#[]⟩, .string ⟨#[]⟩, .bool false, .bool false] := ⟨_, rfl⟩
 rw [← hU] at Q ss ⊢
 clear hU
 clear z0 z1 z2 z3 z4 z5 z6 z7 z8 z9 z10 zl zf0 zf1 zf2 zf3 zf4 zf5 zf6 zf7 zf8 zf9 zf10
 clear n0 n1 n2 n3 n4 n5 n6 n7 n8 n9 n10 nl
 have pc := (Q).cell
 have p0 := pc 0
 have p1 := pc 1
 have p2 := pc 2
 have p3 := pc 3
 have p4 := pc 4
 have p5 := pc 5
 have p6 := pc 6
 have p7 := pc 7
 have p8 := pc 8
 have p9 := pc 9
 have p10 := pc 10
 clear pc
 simp only [List.getElem?_toArray, List.getElem?_cons_zero, List.getElem?_cons_succ] at p0 p1 p2 p3 p4 p5 p6 p7 p8 p9 p10
 have pl := (Q).lt
 have so := N.out.2.2.out1' ss (by have := H1.out.2.2.2.2; simp; omega)
 refine bodyPost_ret (v := .agg #[.int .i64 x.kind, .string ⟨x.name.toArray⟩, .string ⟨#[]⟩, .string ⟨#[]⟩, .string ⟨#[]⟩, .int .i64 x.bytes, .int .i64 x.keys, .string ⟨#[]⟩, .string ⟨#[]⟩, .bool false, .bool false]) ?_ rfl ⟨by rw [HC.out], so⟩
 simp [results, Try.results57, go_sem, p0, p1, p2, p3, p4, p5, p6, p7, p8, p9, p10]

set_option maxHeartbeats 4000000 in
theorem only5_any (x : Cm) (w : World) (hk : x.kind = 5) : Calls Try.prog 57 #[adV x] w fun e w' => e = .returned (adV (cleanC x)) ∧ Step [] [] w w' := by
 have HK := Lib.hid hk
 have k4 : (x.kind == 4) = false := by simp [hk]
 have k5 : (x.kind == 5) = true := by simp [hk]
 have k6 : (x.kind == 6) = false := by simp [hk]
 have k7 : (x.kind == 7) = false := by simp [hk]
 have k9 : (x.kind == 9) = false := by simp [hk]
 have k13 : (x.kind == 13) = false := by simp [hk]
 have k14 : (x.kind == 14) = false := by simp [hk]
 have k11 : (x.kind == 11) = false := by simp [hk]
 have k12 : (x.kind == 12) = false := by simp [hk]
 have HC := Lib.hid (show adV (cleanC x) = .agg #[.int .i64 x.kind, .string ⟨x.name.toArray⟩, .string ⟨#[]⟩, .string ⟨#[]⟩, .string ⟨#[]⟩, .int .i64 x.bytes, .int .i64 x.keys, .string ⟨#[]⟩, .string ⟨#[]⟩, .bool false, .bool false] by simp [cleanC, onlyC, isK, hasN, hasO, hasW, hasS, hasQ, hasP, hasG, hk])
 clear hk
 go_enter Try.func57, Try.ntmps57
 go_upto_region 2 with fail
 obtain ⟨b, hb⟩ : ∃ b, b = w.heap.size := ⟨_, rfl⟩
 obtain ⟨V, hV⟩ : ∃ V, V = (((w.alloc (.cells #[.int .i64 x.kind, .string ⟨x.name.toArray⟩, .string ⟨x.other.toArray⟩, .string ⟨x.word.toArray⟩, .string ⟨x.salt.toArray⟩, .int .i64 x.bytes, .int .i64 x.keys, .string ⟨x.gf.toArray⟩, .string ⟨x.gt.toArray⟩, .bool x.gr, .bool x.gw] 139)).alloc (.cells #[.int .i64 0, .string ⟨#[]⟩, .string ⟨#[]⟩, .string ⟨#[]⟩, .string ⟨#[]⟩, .int .i64 0, .int .i64 0, .string ⟨#[]⟩, .string ⟨#[]⟩, .bool false, .bool false] 139)).alloc (.cells #[.int .i64 x.kind, .string ⟨x.name.toArray⟩, .string ⟨#[]⟩, .string ⟨#[]⟩, .string ⟨#[]⟩, .int .i64 0, .int .i64 0, .string ⟨#[]⟩, .string ⟨#[]⟩, .bool false, .bool false] 139)) := ⟨_, rfl⟩
 have H1 : Hid (Blk V b 139 #[.int .i64 x.kind, .string ⟨x.name.toArray⟩, .string ⟨x.other.toArray⟩, .string ⟨x.word.toArray⟩, .string ⟨x.salt.toArray⟩, .int .i64 x.bytes, .int .i64 x.keys, .string ⟨x.gf.toArray⟩, .string ⟨x.gt.toArray⟩, .bool x.gr, .bool x.gw] ∧ Blk V (b + 1) 139 #[.int .i64 0, .string ⟨#[]⟩, .string ⟨#[]⟩, .string ⟨#[]⟩, .string ⟨#[]⟩, .int .i64 0, .int .i64 0, .string ⟨#[]⟩, .string ⟨#[]⟩, .bool false, .bool false] ∧ Blk V (b + 1 + 1) 139 #[.int .i64 x.kind, .string ⟨x.name.toArray⟩, .string ⟨#[]⟩, .string ⟨#[]⟩, .string ⟨#[]⟩, .int .i64 0, .int .i64 0, .string ⟨#[]⟩, .string ⟨#[]⟩, .bool false, .bool false] ∧ Step [] [] w V ∧ b = w.heap.size) := by
  rw [hV, hb]
  have Q := blk3q w 139 139 139 #[.int .i64 x.kind, .string ⟨x.name.toArray⟩, .string ⟨x.other.toArray⟩, .string ⟨x.word.toArray⟩, .string ⟨x.salt.toArray⟩, .int .i64 x.bytes, .int .i64 x.keys, .string ⟨x.gf.toArray⟩, .string ⟨x.gt.toArray⟩, .bool x.gr, .bool x.gw] #[.int .i64 0, .string ⟨#[]⟩, .string ⟨#[]⟩, .string ⟨#[]⟩, .string ⟨#[]⟩, .int .i64 0, .int .i64 0, .string ⟨#[]⟩, .string ⟨#[]⟩, .bool false, .bool false] #[.int .i64 x.kind, .string ⟨x.name.toArray⟩, .string ⟨#[]⟩, .string ⟨#[]⟩, .string ⟨#[]⟩, .int .i64 0, .int .i64 0, .string ⟨#[]⟩, .string ⟨#[]⟩, .bool false, .bool false]
  exact ⟨Q.1, Q.2.1, Q.2.2, (((Step.refl [] w).alloc _).alloc _).alloc _, rfl⟩
 rw [← hV, ← hb]
 clear hV hb
 have cc := (H1.out.1).cell
 have c0 := cc 0
 have c1 := cc 1
 have c2 := cc 2
 have c3 := cc 3
 have c4 := cc 4
 have c5 := cc 5
 have c6 := cc 6
 have c7 := cc 7
 have c8 := cc 8
 have c9 := cc 9
 have c10 := cc 10
 clear cc
 simp only [List.getElem?_toArray, List.getElem?_cons_zero, List.getElem?_cons_succ] at c0 c1 c2 c3 c4 c5 c6 c7 c8 c9 c10
 have cl := (H1.out.1).lt
 go_upto_region 5 with fail
 clear c0 c1 c2 c3 c4 c5 c6 c7 c8 c9 c10 cl
 have oc := (H1.out.2.2.1).cell
 have o0 := oc 0
 have o1 := oc 1
 have o2 := oc 2
 have o3 := oc 3
 have o4 := oc 4
 have o5 := oc 5
 have o6 := oc 6
 have o7 := oc 7
 have o8 := oc 8
 have o9 := oc 9
 have o10 := oc 10
 clear oc
 simp only [List.getElem?_toArray, List.getElem?_cons_zero, List.getElem?_cons_succ] at o0 o1 o2 o3 o4 o5 o6 o7 o8 o9 o10
 have ol := (H1.out.2.2.1).lt
 have ofz := (H1.out.2.2.1).frozen
 have of0 := ofz 0
 have of1 := ofz 1
 have of2 := ofz 2
 have of3 := ofz 3
 have of4 := ofz 4
 have of5 := ofz 5
 have of6 := ofz 6
 have of7 := ofz 7
 have of8 := ofz 8
 have of9 := ofz 9
 have of10 := ofz 10
 clear ofz
 refine wp_region_held_drew (S := fun V => Hid (Blk V b 139 #[.int .i64 x.kind, .string ⟨x.name.toArray⟩, .string ⟨x.other.toArray⟩, .string ⟨x.word.toArray⟩, .string ⟨x.salt.toArray⟩, .int .i64 x.bytes, .int .i64 x.keys, .string ⟨x.gf.toArray⟩, .string ⟨x.gt.toArray⟩, .bool x.gr, .bool x.gw])) (by kernel_rfl) (Lib.hid H1.out.1.drew) (fun hHeld => ?_)
 refine wpAnyH_take (i := 0) (v := ?_) rfl (by kernel_rfl) (by kernel_rfl) (by kernel_rfl) (fun _ _ _ h => h) (Or.inl ⟨by rfl, ?_⟩) hHeld ?_
 rotate_left
 ·intro w hSw1
  try dsimp only at hSw1
  go_simp
  try (with_reducible rfl)
 try simp only [Act.put, LsA, LsB, LsC, LsD, LsE, LsF]
 refine wpAnyH_take (i := 1) (v := ?_) rfl (by kernel_rfl) (by kernel_rfl) (by kernel_rfl) (fun _ _ _ h => h) (Or.inl ⟨by rfl, ?_⟩) hHeld ?_
 rotate_left
 ·intro w hSw1
  have c5 := hSw1.out.cell 5
  simp only [List.getElem?_toArray, List.getElem?_cons_zero, List.getElem?_cons_succ] at c5
  have cl := hSw1.out.lt
  go_simp
  try (with_reducible rfl)
 try simp only [Act.put, LsA, LsB, LsC, LsD, LsE, LsF]
 refine wpAnyH_take (i := 2) (v := ?_) rfl (by kernel_rfl) (by kernel_rfl) (by kernel_rfl) (fun _ _ _ h => h) (Or.inl ⟨by rfl, ?_⟩) hHeld ?_
 rotate_left
 ·intro w hSw1
  try dsimp only at hSw1
  go_simp
  try (with_reducible rfl)
 try simp only [Act.put, LsA, LsB, LsC, LsD, LsE, LsF]
 refine wpAnyH_take (i := 3) (v := ?_) rfl (by kernel_rfl) (by kernel_rfl) (by kernel_rfl) (fun _ _ _ h => h) (Or.inl ⟨by rfl, ?_⟩) hHeld ?_
 rotate_left
 ·intro w hSw1
  have c6 := hSw1.out.cell 6
  simp only [List.getElem?_toArray, List.getElem?_cons_zero, List.getElem?_cons_succ] at c6
  have cl := hSw1.out.lt
  go_simp
  try (with_reducible rfl)
 try simp only [Act.put, LsA, LsB, LsC, LsD, LsE, LsF]
 refine wpAnyH_take (i := 4) (v := ?_) rfl (by kernel_rfl) (by kernel_rfl) (by kernel_rfl) (fun _ _ _ h => h) (Or.inl ⟨by rfl, ?_⟩) hHeld ?_
 rotate_left
 ·intro w hSw1
  try dsimp only at hSw1
  go_simp
  try (with_reducible rfl)
 try simp only [Act.put, LsA, LsB, LsC, LsD, LsE, LsF]
 refine wpAnyH_ready (rs := [5]) (by kernel_rfl) (by simp) ?_
 refine AllReadyH.cons rfl (fun K hK => ?_) AllReadyH.nil
 go_simp
 skip
 go_wp2_with fail
 refine hK.out _ _ (Lib.hid (Blk.far (p := ⟨b + 1 + 1, 5, none⟩) hHeld.out (by simp; omega) _)) (fun hHeld2 => ?_)
 clear hK K hHeld
 try simp only [Act.put, LsA, LsB, LsC, LsD, LsE, LsF]
 refine wpAnyH_take (i := 6) (v := ?_) rfl (by kernel_rfl) (by kernel_rfl) (by kernel_rfl) (fun _ _ _ h => h) (Or.inl ⟨by rfl, ?_⟩) hHeld2 ?_
 rotate_left
 ·intro w hSw1
  try dsimp only at hSw1
  go_simp
  try (with_reducible rfl)
 try simp only [Act.put, LsA, LsB, LsC, LsD, LsE, LsF]
 refine wpAnyH_ready (rs := [7]) (by kernel_rfl) (by simp) ?_
 refine AllReadyH.cons rfl (fun K hK => ?_) AllReadyH.nil
 go_simp
 skip
 go_wp2_with fail
 refine hK.out _ _ (Lib.hid (Blk.far (p := ⟨b + 1 + 1, 6, none⟩) hHeld2.out (by simp; omega) _)) (fun hHeld3 => ?_)
 clear hK K hHeld2
 try simp only [Act.put, LsA, LsB, LsC, LsD, LsE, LsF]
 refine wpAnyH_done (by kernel_rfl) ?_ _
 go_upto_region 18 with fail
 obtain ⟨W, hW⟩ : ∃ W, W = ((V.setCell ⟨b + 1 + 1, 5, none⟩ (.int .i64 x.bytes)).setCell ⟨b + 1 + 1, 6, none⟩ (.int .i64 x.keys)).drew := ⟨_, rfl⟩
 have ss0 : Step [b + 1 + 1] [b + 1 + 1] V W := by
  rw [hW]
  refine Step.drew ?_
  iterate 2 refine Step.setCell ?_ (.inl (by simp)) _
  exact Step.refl _ _
 have N : Hid (Blk W (b + 1 + 1) 139 #[.int .i64 x.kind, .string ⟨x.name.toArray⟩, .string ⟨#[]⟩, .string ⟨#[]⟩, .string ⟨#[]⟩, .int .i64 x.bytes, .int .i64 x.keys, .string ⟨#[]⟩, .string ⟨#[]⟩, .bool false, .bool false] ∧ Blk W (b + 1) 139 #[.int .i64 0, .string ⟨#[]⟩, .string ⟨#[]⟩, .string ⟨#[]⟩, .string ⟨#[]⟩, .int .i64 0, .int .i64 0, .string ⟨#[]⟩, .string ⟨#[]⟩, .bool false, .bool false] ∧ Step [] [] w W) := ⟨by rw [hW]; have hq := ((H1.out.2.2.1.set 5 (.int .i64 x.bytes)).set 6 (.int .i64 x.keys)).drew; simpa using hq, H1.out.2.1.step ss0 (by simp), H1.out.2.2.2.1.out1' ss0 (by have := H1.out.2.2.2.2; simp; omega)⟩
 rw [← hW]
 clear hW ss0
 clear o0 o1 o2 o3 o4 o5 o6 o7 o8 o9 o10 ol of0 of1 of2 of3 of4 of5 of6 of7 of8 of9 of10
 have nc := (N.out.1).cell
 have n0 := nc 0
 have n1 := nc 1
 have n2 := nc 2
 have n3 := nc 3
 have n4 := nc 4
 have n5 := nc 5
 have n6 := nc 6
 have n7 := nc 7
 have n8 := nc 8
 have n9 := nc 9
 have n10 := nc 10
 clear nc
 simp only [List.getElem?_toArray, List.getElem?_cons_zero, List.getElem?_cons_succ] at n0 n1 n2 n3 n4 n5 n6 n7 n8 n9 n10
 have nl := (N.out.1).lt
 have zc := (N.out.2.1).cell
 have z0 := zc 0
 have z1 := zc 1
 have z2 := zc 2
 have z3 := zc 3
 have z4 := zc 4
 have z5 := zc 5
 have z6 := zc 6
 have z7 := zc 7
 have z8 := zc 8
 have z9 := zc 9
 have z10 := zc 10
 clear zc
 simp only [List.getElem?_toArray, List.getElem?_cons_zero, List.getElem?_cons_succ] at z0 z1 z2 z3 z4 z5 z6 z7 z8 z9 z10
 have zl := (N.out.2.1).lt
 have zfz := (N.out.2.1).frozen
 have zf0 := zfz 0
 have zf1 := zfz 1
 have zf2 := zfz 2
 have zf3 := zfz 3
 have zf4 := zfz 4
 have zf5 := zfz 5
 have zf6 := zfz 6
 have zf7 := zfz 7
 have zf8 := zfz 8
 have zf9 := zfz 9
 have zf10 := zfz 10
 clear zfz
 go_wp2_with fail
 change bodyPost _ _ _ _ _ (putL W (b + 1) 0 [.int .i64 x.kind, .string ⟨x.name.toArray⟩, .string ⟨#[]⟩, .string ⟨#[]⟩, .string ⟨#[]⟩, .int .i64 x.bytes, .int .i64 x.keys, .string ⟨#[]⟩, .string ⟨#[]⟩, .bool false, .bool false])
 have Q := N.out.2.1.put0 [.int .i64 x.kind, .string ⟨x.name.toArray⟩, .string ⟨#[]⟩, .string ⟨#[]⟩, .string ⟨#[]⟩, .int .i64 x.bytes, .int .i64 x.keys, .string ⟨#[]⟩, .string ⟨#[]⟩, .bool false, .bool false] rfl
 have ss := step_putL (b + 1) [.int .i64 x.kind, .string ⟨x.name.toArray⟩, .string ⟨#[]⟩, .string ⟨#[]⟩, .string ⟨#[]⟩, .int .i64 x.bytes, .int .i64 x.keys, .string ⟨#[]⟩, .string ⟨#[]⟩, .bool false, .bool false] 0 W
 obtain ⟨U, hU⟩ : ∃ U, U = putL W (b + 1) 0 [.int .i64 x.kind, .string ⟨x.name.toArray⟩, .string ⟨#[]⟩, .string ⟨#[]⟩, .string ⟨#[]⟩, .int .i64 x.bytes, .int .i64 x.keys, .string ⟨#[]⟩, .string ⟨#[]⟩, .bool false, .bool false] := ⟨_, rfl⟩
 rw [← hU] at Q ss ⊢
 clear hU
 clear z0 z1 z2 z3 z4 z5 z6 z7 z8 z9 z10 zl zf0 zf1 zf2 zf3 zf4 zf5 zf6 zf7 zf8 zf9 zf10
 clear n0 n1 n2 n3 n4 n5 n6 n7 n8 n9 n10 nl
 have pc := (Q).cell
 have p0 := pc 0
 have p1 := pc 1
 have p2 := pc 2
 have p3 := pc 3
 have p4 := pc 4
 have p5 := pc 5
 have p6 := pc 6
 have p7 := pc 7
 have p8 := pc 8
 have p9 := pc 9
 have p10 := pc 10
 clear pc
 simp only [List.getElem?_toArray, List.getElem?_cons_zero, List.getElem?_cons_succ] at p0 p1 p2 p3 p4 p5 p6 p7 p8 p9 p10
 have pl := (Q).lt
 have so := N.out.2.2.out1' ss (by have := H1.out.2.2.2.2; simp; omega)
 refine bodyPost_ret (v := .agg #[.int .i64 x.kind, .string ⟨x.name.toArray⟩, .string ⟨#[]⟩, .string ⟨#[]⟩, .string ⟨#[]⟩, .int .i64 x.bytes, .int .i64 x.keys, .string ⟨#[]⟩, .string ⟨#[]⟩, .bool false, .bool false]) ?_ rfl ⟨by rw [HC.out], so⟩
 simp [results, Try.results57, go_sem, p0, p1, p2, p3, p4, p5, p6, p7, p8, p9, p10]

set_option maxHeartbeats 4000000 in
theorem only6_any (x : Cm) (w : World) (hk : x.kind = 6) : Calls Try.prog 57 #[adV x] w fun e w' => e = .returned (adV (cleanC x)) ∧ Step [] [] w w' := by
 have HK := Lib.hid hk
 have k4 : (x.kind == 4) = false := by simp [hk]
 have k5 : (x.kind == 5) = false := by simp [hk]
 have k6 : (x.kind == 6) = true := by simp [hk]
 have k7 : (x.kind == 7) = false := by simp [hk]
 have k9 : (x.kind == 9) = false := by simp [hk]
 have k13 : (x.kind == 13) = false := by simp [hk]
 have k14 : (x.kind == 14) = false := by simp [hk]
 have k11 : (x.kind == 11) = false := by simp [hk]
 have k12 : (x.kind == 12) = false := by simp [hk]
 have HC := Lib.hid (show adV (cleanC x) = .agg #[.int .i64 x.kind, .string ⟨x.name.toArray⟩, .string ⟨x.other.toArray⟩, .string ⟨x.word.toArray⟩, .string ⟨x.salt.toArray⟩, .int .i64 0, .int .i64 0, .string ⟨#[]⟩, .string ⟨#[]⟩, .bool false, .bool false] by simp [cleanC, onlyC, isK, hasN, hasO, hasW, hasS, hasQ, hasP, hasG, hk])
 clear hk
 go_enter Try.func57, Try.ntmps57
 go_upto_region 2 with fail
 obtain ⟨b, hb⟩ : ∃ b, b = w.heap.size := ⟨_, rfl⟩
 obtain ⟨V, hV⟩ : ∃ V, V = (((w.alloc (.cells #[.int .i64 x.kind, .string ⟨x.name.toArray⟩, .string ⟨x.other.toArray⟩, .string ⟨x.word.toArray⟩, .string ⟨x.salt.toArray⟩, .int .i64 x.bytes, .int .i64 x.keys, .string ⟨x.gf.toArray⟩, .string ⟨x.gt.toArray⟩, .bool x.gr, .bool x.gw] 139)).alloc (.cells #[.int .i64 0, .string ⟨#[]⟩, .string ⟨#[]⟩, .string ⟨#[]⟩, .string ⟨#[]⟩, .int .i64 0, .int .i64 0, .string ⟨#[]⟩, .string ⟨#[]⟩, .bool false, .bool false] 139)).alloc (.cells #[.int .i64 x.kind, .string ⟨x.name.toArray⟩, .string ⟨#[]⟩, .string ⟨#[]⟩, .string ⟨#[]⟩, .int .i64 0, .int .i64 0, .string ⟨#[]⟩, .string ⟨#[]⟩, .bool false, .bool false] 139)) := ⟨_, rfl⟩
 have H1 : Hid (Blk V b 139 #[.int .i64 x.kind, .string ⟨x.name.toArray⟩, .string ⟨x.other.toArray⟩, .string ⟨x.word.toArray⟩, .string ⟨x.salt.toArray⟩, .int .i64 x.bytes, .int .i64 x.keys, .string ⟨x.gf.toArray⟩, .string ⟨x.gt.toArray⟩, .bool x.gr, .bool x.gw] ∧ Blk V (b + 1) 139 #[.int .i64 0, .string ⟨#[]⟩, .string ⟨#[]⟩, .string ⟨#[]⟩, .string ⟨#[]⟩, .int .i64 0, .int .i64 0, .string ⟨#[]⟩, .string ⟨#[]⟩, .bool false, .bool false] ∧ Blk V (b + 1 + 1) 139 #[.int .i64 x.kind, .string ⟨x.name.toArray⟩, .string ⟨#[]⟩, .string ⟨#[]⟩, .string ⟨#[]⟩, .int .i64 0, .int .i64 0, .string ⟨#[]⟩, .string ⟨#[]⟩, .bool false, .bool false] ∧ Step [] [] w V ∧ b = w.heap.size) := by
  rw [hV, hb]
  have Q := blk3q w 139 139 139 #[.int .i64 x.kind, .string ⟨x.name.toArray⟩, .string ⟨x.other.toArray⟩, .string ⟨x.word.toArray⟩, .string ⟨x.salt.toArray⟩, .int .i64 x.bytes, .int .i64 x.keys, .string ⟨x.gf.toArray⟩, .string ⟨x.gt.toArray⟩, .bool x.gr, .bool x.gw] #[.int .i64 0, .string ⟨#[]⟩, .string ⟨#[]⟩, .string ⟨#[]⟩, .string ⟨#[]⟩, .int .i64 0, .int .i64 0, .string ⟨#[]⟩, .string ⟨#[]⟩, .bool false, .bool false] #[.int .i64 x.kind, .string ⟨x.name.toArray⟩, .string ⟨#[]⟩, .string ⟨#[]⟩, .string ⟨#[]⟩, .int .i64 0, .int .i64 0, .string ⟨#[]⟩, .string ⟨#[]⟩, .bool false, .bool false]
  exact ⟨Q.1, Q.2.1, Q.2.2, (((Step.refl [] w).alloc _).alloc _).alloc _, rfl⟩
 rw [← hV, ← hb]
 clear hV hb
 have cc := (H1.out.1).cell
 have c0 := cc 0
 have c1 := cc 1
 have c2 := cc 2
 have c3 := cc 3
 have c4 := cc 4
 have c5 := cc 5
 have c6 := cc 6
 have c7 := cc 7
 have c8 := cc 8
 have c9 := cc 9
 have c10 := cc 10
 clear cc
 simp only [List.getElem?_toArray, List.getElem?_cons_zero, List.getElem?_cons_succ] at c0 c1 c2 c3 c4 c5 c6 c7 c8 c9 c10
 have cl := (H1.out.1).lt
 go_upto_region 7 with fail
 clear c0 c1 c2 c3 c4 c5 c6 c7 c8 c9 c10 cl
 have oc := (H1.out.2.2.1).cell
 have o0 := oc 0
 have o1 := oc 1
 have o2 := oc 2
 have o3 := oc 3
 have o4 := oc 4
 have o5 := oc 5
 have o6 := oc 6
 have o7 := oc 7
 have o8 := oc 8
 have o9 := oc 9
 have o10 := oc 10
 clear oc
 simp only [List.getElem?_toArray, List.getElem?_cons_zero, List.getElem?_cons_succ] at o0 o1 o2 o3 o4 o5 o6 o7 o8 o9 o10
 have ol := (H1.out.2.2.1).lt
 have ofz := (H1.out.2.2.1).frozen
 have of0 := ofz 0
 have of1 := ofz 1
 have of2 := ofz 2
 have of3 := ofz 3
 have of4 := ofz 4
 have of5 := ofz 5
 have of6 := ofz 6
 have of7 := ofz 7
 have of8 := ofz 8
 have of9 := ofz 9
 have of10 := ofz 10
 clear ofz
 refine wp_region_held_drew (S := fun V => Hid (Blk V b 139 #[.int .i64 x.kind, .string ⟨x.name.toArray⟩, .string ⟨x.other.toArray⟩, .string ⟨x.word.toArray⟩, .string ⟨x.salt.toArray⟩, .int .i64 x.bytes, .int .i64 x.keys, .string ⟨x.gf.toArray⟩, .string ⟨x.gt.toArray⟩, .bool x.gr, .bool x.gw])) (by kernel_rfl) (Lib.hid H1.out.1.drew) (fun hHeld => ?_)
 refine wpAnyH_take (i := 0) (v := ?_) rfl (by kernel_rfl) (by kernel_rfl) (by kernel_rfl) (fun _ _ _ h => h) (Or.inl ⟨by rfl, ?_⟩) hHeld ?_
 rotate_left
 ·intro w hSw1
  try dsimp only at hSw1
  go_simp
  try (with_reducible rfl)
 try simp only [Act.put, LsA, LsB, LsC, LsD, LsE, LsF]
 refine wpAnyH_take (i := 1) (v := ?_) rfl (by kernel_rfl) (by kernel_rfl) (by kernel_rfl) (fun _ _ _ h => h) (Or.inl ⟨by rfl, ?_⟩) hHeld ?_
 rotate_left
 ·intro w hSw1
  have c2 := hSw1.out.cell 2
  simp only [List.getElem?_toArray, List.getElem?_cons_zero, List.getElem?_cons_succ] at c2
  have cl := hSw1.out.lt
  go_simp
  try (with_reducible rfl)
 try simp only [Act.put, LsA, LsB, LsC, LsD, LsE, LsF]
 refine wpAnyH_take (i := 2) (v := ?_) rfl (by kernel_rfl) (by kernel_rfl) (by kernel_rfl) (fun _ _ _ h => h) (Or.inl ⟨by rfl, ?_⟩) hHeld ?_
 rotate_left
 ·intro w hSw1
  try dsimp only at hSw1
  go_simp
  try (with_reducible rfl)
 try simp only [Act.put, LsA, LsB, LsC, LsD, LsE, LsF]
 refine wpAnyH_take (i := 3) (v := ?_) rfl (by kernel_rfl) (by kernel_rfl) (by kernel_rfl) (fun _ _ _ h => h) (Or.inl ⟨by rfl, ?_⟩) hHeld ?_
 rotate_left
 ·intro w hSw1
  have c3 := hSw1.out.cell 3
  simp only [List.getElem?_toArray, List.getElem?_cons_zero, List.getElem?_cons_succ] at c3
  have cl := hSw1.out.lt
  go_simp
  try (with_reducible rfl)
 try simp only [Act.put, LsA, LsB, LsC, LsD, LsE, LsF]
 refine wpAnyH_take (i := 4) (v := ?_) rfl (by kernel_rfl) (by kernel_rfl) (by kernel_rfl) (fun _ _ _ h => h) (Or.inl ⟨by rfl, ?_⟩) hHeld ?_
 rotate_left
 ·intro w hSw1
  try dsimp only at hSw1
  go_simp
  try (with_reducible rfl)
 try simp only [Act.put, LsA, LsB, LsC, LsD, LsE, LsF]
 refine wpAnyH_take (i := 5) (v := ?_) rfl (by kernel_rfl) (by kernel_rfl) (by kernel_rfl) (fun _ _ _ h => h) (Or.inl ⟨by rfl, ?_⟩) hHeld ?_
 rotate_left
 ·intro w hSw1
  have c4 := hSw1.out.cell 4
  simp only [List.getElem?_toArray, List.getElem?_cons_zero, List.getElem?_cons_succ] at c4
  have cl := hSw1.out.lt
  go_simp
  try (with_reducible rfl)
 try simp only [Act.put, LsA, LsB, LsC, LsD, LsE, LsF]
 refine wpAnyH_take (i := 6) (v := ?_) rfl (by kernel_rfl) (by kernel_rfl) (by kernel_rfl) (fun _ _ _ h => h) (Or.inl ⟨by rfl, ?_⟩) hHeld ?_
 rotate_left
 ·intro w hSw1
  try dsimp only at hSw1
  go_simp
  try (with_reducible rfl)
 try simp only [Act.put, LsA, LsB, LsC, LsD, LsE, LsF]
 refine wpAnyH_ready (rs := [7]) (by kernel_rfl) (by simp) ?_
 refine AllReadyH.cons rfl (fun K hK => ?_) AllReadyH.nil
 go_simp
 skip
 go_wp2_with fail
 refine hK.out _ _ (Lib.hid (Blk.far (p := ⟨b + 1 + 1, 2, none⟩) hHeld.out (by simp; omega) _)) (fun hHeld2 => ?_)
 clear hK K hHeld
 try simp only [Act.put, LsA, LsB, LsC, LsD, LsE, LsF]
 refine wpAnyH_take (i := 8) (v := ?_) rfl (by kernel_rfl) (by kernel_rfl) (by kernel_rfl) (fun _ _ _ h => h) (Or.inl ⟨by rfl, ?_⟩) hHeld2 ?_
 rotate_left
 ·intro w hSw1
  try dsimp only at hSw1
  go_simp
  try (with_reducible rfl)
 try simp only [Act.put, LsA, LsB, LsC, LsD, LsE, LsF]
 refine wpAnyH_ready (rs := [9]) (by kernel_rfl) (by simp) ?_
 refine AllReadyH.cons rfl (fun K hK => ?_) AllReadyH.nil
 go_simp
 skip
 go_wp2_with fail
 refine hK.out _ _ (Lib.hid (Blk.far (p := ⟨b + 1 + 1, 3, none⟩) hHeld2.out (by simp; omega) _)) (fun hHeld3 => ?_)
 clear hK K hHeld2
 try simp only [Act.put, LsA, LsB, LsC, LsD, LsE, LsF]
 refine wpAnyH_take (i := 10) (v := ?_) rfl (by kernel_rfl) (by kernel_rfl) (by kernel_rfl) (fun _ _ _ h => h) (Or.inl ⟨by rfl, ?_⟩) hHeld3 ?_
 rotate_left
 ·intro w hSw1
  try dsimp only at hSw1
  go_simp
  try (with_reducible rfl)
 try simp only [Act.put, LsA, LsB, LsC, LsD, LsE, LsF]
 refine wpAnyH_ready (rs := [11]) (by kernel_rfl) (by simp) ?_
 refine AllReadyH.cons rfl (fun K hK => ?_) AllReadyH.nil
 go_simp
 skip
 go_wp2_with fail
 refine hK.out _ _ (Lib.hid (Blk.far (p := ⟨b + 1 + 1, 4, none⟩) hHeld3.out (by simp; omega) _)) (fun hHeld4 => ?_)
 clear hK K hHeld3
 try simp only [Act.put, LsA, LsB, LsC, LsD, LsE, LsF]
 refine wpAnyH_done (by kernel_rfl) ?_ _
 go_upto_region 18 with fail
 obtain ⟨W, hW⟩ : ∃ W, W = (((V.setCell ⟨b + 1 + 1, 2, none⟩ (.string ⟨x.other.toArray⟩)).setCell ⟨b + 1 + 1, 3, none⟩ (.string ⟨x.word.toArray⟩)).setCell ⟨b + 1 + 1, 4, none⟩ (.string ⟨x.salt.toArray⟩)).drew := ⟨_, rfl⟩
 have ss0 : Step [b + 1 + 1] [b + 1 + 1] V W := by
  rw [hW]
  refine Step.drew ?_
  iterate 3 refine Step.setCell ?_ (.inl (by simp)) _
  exact Step.refl _ _
 have N : Hid (Blk W (b + 1 + 1) 139 #[.int .i64 x.kind, .string ⟨x.name.toArray⟩, .string ⟨x.other.toArray⟩, .string ⟨x.word.toArray⟩, .string ⟨x.salt.toArray⟩, .int .i64 0, .int .i64 0, .string ⟨#[]⟩, .string ⟨#[]⟩, .bool false, .bool false] ∧ Blk W (b + 1) 139 #[.int .i64 0, .string ⟨#[]⟩, .string ⟨#[]⟩, .string ⟨#[]⟩, .string ⟨#[]⟩, .int .i64 0, .int .i64 0, .string ⟨#[]⟩, .string ⟨#[]⟩, .bool false, .bool false] ∧ Step [] [] w W) := ⟨by rw [hW]; have hq := (((H1.out.2.2.1.set 2 (.string ⟨x.other.toArray⟩)).set 3 (.string ⟨x.word.toArray⟩)).set 4 (.string ⟨x.salt.toArray⟩)).drew; simpa using hq, H1.out.2.1.step ss0 (by simp), H1.out.2.2.2.1.out1' ss0 (by have := H1.out.2.2.2.2; simp; omega)⟩
 rw [← hW]
 clear hW ss0
 clear o0 o1 o2 o3 o4 o5 o6 o7 o8 o9 o10 ol of0 of1 of2 of3 of4 of5 of6 of7 of8 of9 of10
 have nc := (N.out.1).cell
 have n0 := nc 0
 have n1 := nc 1
 have n2 := nc 2
 have n3 := nc 3
 have n4 := nc 4
 have n5 := nc 5
 have n6 := nc 6
 have n7 := nc 7
 have n8 := nc 8
 have n9 := nc 9
 have n10 := nc 10
 clear nc
 simp only [List.getElem?_toArray, List.getElem?_cons_zero, List.getElem?_cons_succ] at n0 n1 n2 n3 n4 n5 n6 n7 n8 n9 n10
 have nl := (N.out.1).lt
 have zc := (N.out.2.1).cell
 have z0 := zc 0
 have z1 := zc 1
 have z2 := zc 2
 have z3 := zc 3
 have z4 := zc 4
 have z5 := zc 5
 have z6 := zc 6
 have z7 := zc 7
 have z8 := zc 8
 have z9 := zc 9
 have z10 := zc 10
 clear zc
 simp only [List.getElem?_toArray, List.getElem?_cons_zero, List.getElem?_cons_succ] at z0 z1 z2 z3 z4 z5 z6 z7 z8 z9 z10
 have zl := (N.out.2.1).lt
 have zfz := (N.out.2.1).frozen
 have zf0 := zfz 0
 have zf1 := zfz 1
 have zf2 := zfz 2
 have zf3 := zfz 3
 have zf4 := zfz 4
 have zf5 := zfz 5
 have zf6 := zfz 6
 have zf7 := zfz 7
 have zf8 := zfz 8
 have zf9 := zfz 9
 have zf10 := zfz 10
 clear zfz
 go_wp2_with fail
 change bodyPost _ _ _ _ _ (putL W (b + 1) 0 [.int .i64 x.kind, .string ⟨x.name.toArray⟩, .string ⟨x.other.toArray⟩, .string ⟨x.word.toArray⟩, .string ⟨x.salt.toArray⟩, .int .i64 0, .int .i64 0, .string ⟨#[]⟩, .string ⟨#[]⟩, .bool false, .bool false])
 have Q := N.out.2.1.put0 [.int .i64 x.kind, .string ⟨x.name.toArray⟩, .string ⟨x.other.toArray⟩, .string ⟨x.word.toArray⟩, .string ⟨x.salt.toArray⟩, .int .i64 0, .int .i64 0, .string ⟨#[]⟩, .string ⟨#[]⟩, .bool false, .bool false] rfl
 have ss := step_putL (b + 1) [.int .i64 x.kind, .string ⟨x.name.toArray⟩, .string ⟨x.other.toArray⟩, .string ⟨x.word.toArray⟩, .string ⟨x.salt.toArray⟩, .int .i64 0, .int .i64 0, .string ⟨#[]⟩, .string ⟨#[]⟩, .bool false, .bool false] 0 W
 obtain ⟨U, hU⟩ : ∃ U, U = putL W (b + 1) 0 [.int .i64 x.kind, .string ⟨x.name.toArray⟩, .string ⟨x.other.toArray⟩, .string ⟨x.word.toArray⟩, .string ⟨x.salt.toArray⟩, .int .i64 0, .int .i64 0, .string ⟨#[]⟩, .string ⟨#[]⟩, .bool false, .bool false] := ⟨_, rfl⟩
 rw [← hU] at Q ss ⊢
 clear hU
 clear z0 z1 z2 z3 z4 z5 z6 z7 z8 z9 z10 zl zf0 zf1 zf2 zf3 zf4 zf5 zf6 zf7 zf8 zf9 zf10
 clear n0 n1 n2 n3 n4 n5 n6 n7 n8 n9 n10 nl
 have pc := (Q).cell
 have p0 := pc 0
 have p1 := pc 1
 have p2 := pc 2
 have p3 := pc 3
 have p4 := pc 4
 have p5 := pc 5
 have p6 := pc 6
 have p7 := pc 7
 have p8 := pc 8
 have p9 := pc 9
 have p10 := pc 10
 clear pc
 simp only [List.getElem?_toArray, List.getElem?_cons_zero, List.getElem?_cons_succ] at p0 p1 p2 p3 p4 p5 p6 p7 p8 p9 p10
 have pl := (Q).lt
 have so := N.out.2.2.out1' ss (by have := H1.out.2.2.2.2; simp; omega)
 refine bodyPost_ret (v := .agg #[.int .i64 x.kind, .string ⟨x.name.toArray⟩, .string ⟨x.other.toArray⟩, .string ⟨x.word.toArray⟩, .string ⟨x.salt.toArray⟩, .int .i64 0, .int .i64 0, .string ⟨#[]⟩, .string ⟨#[]⟩, .bool false, .bool false]) ?_ rfl ⟨by rw [HC.out], so⟩
 simp [results, Try.results57, go_sem, p0, p1, p2, p3, p4, p5, p6, p7, p8, p9, p10]

set_option maxHeartbeats 4000000 in
theorem only7_any (x : Cm) (w : World) (hk : x.kind = 7) : Calls Try.prog 57 #[adV x] w fun e w' => e = .returned (adV (cleanC x)) ∧ Step [] [] w w' := by
 have HK := Lib.hid hk
 have k4 : (x.kind == 4) = false := by simp [hk]
 have k5 : (x.kind == 5) = false := by simp [hk]
 have k6 : (x.kind == 6) = false := by simp [hk]
 have k7 : (x.kind == 7) = true := by simp [hk]
 have k9 : (x.kind == 9) = false := by simp [hk]
 have k13 : (x.kind == 13) = false := by simp [hk]
 have k14 : (x.kind == 14) = false := by simp [hk]
 have k11 : (x.kind == 11) = false := by simp [hk]
 have k12 : (x.kind == 12) = false := by simp [hk]
 have HC := Lib.hid (show adV (cleanC x) = .agg #[.int .i64 x.kind, .string ⟨x.name.toArray⟩, .string ⟨#[]⟩, .string ⟨x.word.toArray⟩, .string ⟨x.salt.toArray⟩, .int .i64 0, .int .i64 0, .string ⟨#[]⟩, .string ⟨#[]⟩, .bool false, .bool false] by simp [cleanC, onlyC, isK, hasN, hasO, hasW, hasS, hasQ, hasP, hasG, hk])
 clear hk
 go_enter Try.func57, Try.ntmps57
 go_upto_region 2 with fail
 obtain ⟨b, hb⟩ : ∃ b, b = w.heap.size := ⟨_, rfl⟩
 obtain ⟨V, hV⟩ : ∃ V, V = (((w.alloc (.cells #[.int .i64 x.kind, .string ⟨x.name.toArray⟩, .string ⟨x.other.toArray⟩, .string ⟨x.word.toArray⟩, .string ⟨x.salt.toArray⟩, .int .i64 x.bytes, .int .i64 x.keys, .string ⟨x.gf.toArray⟩, .string ⟨x.gt.toArray⟩, .bool x.gr, .bool x.gw] 139)).alloc (.cells #[.int .i64 0, .string ⟨#[]⟩, .string ⟨#[]⟩, .string ⟨#[]⟩, .string ⟨#[]⟩, .int .i64 0, .int .i64 0, .string ⟨#[]⟩, .string ⟨#[]⟩, .bool false, .bool false] 139)).alloc (.cells #[.int .i64 x.kind, .string ⟨x.name.toArray⟩, .string ⟨#[]⟩, .string ⟨#[]⟩, .string ⟨#[]⟩, .int .i64 0, .int .i64 0, .string ⟨#[]⟩, .string ⟨#[]⟩, .bool false, .bool false] 139)) := ⟨_, rfl⟩
 have H1 : Hid (Blk V b 139 #[.int .i64 x.kind, .string ⟨x.name.toArray⟩, .string ⟨x.other.toArray⟩, .string ⟨x.word.toArray⟩, .string ⟨x.salt.toArray⟩, .int .i64 x.bytes, .int .i64 x.keys, .string ⟨x.gf.toArray⟩, .string ⟨x.gt.toArray⟩, .bool x.gr, .bool x.gw] ∧ Blk V (b + 1) 139 #[.int .i64 0, .string ⟨#[]⟩, .string ⟨#[]⟩, .string ⟨#[]⟩, .string ⟨#[]⟩, .int .i64 0, .int .i64 0, .string ⟨#[]⟩, .string ⟨#[]⟩, .bool false, .bool false] ∧ Blk V (b + 1 + 1) 139 #[.int .i64 x.kind, .string ⟨x.name.toArray⟩, .string ⟨#[]⟩, .string ⟨#[]⟩, .string ⟨#[]⟩, .int .i64 0, .int .i64 0, .string ⟨#[]⟩, .string ⟨#[]⟩, .bool false, .bool false] ∧ Step [] [] w V ∧ b = w.heap.size) := by
  rw [hV, hb]
  have Q := blk3q w 139 139 139 #[.int .i64 x.kind, .string ⟨x.name.toArray⟩, .string ⟨x.other.toArray⟩, .string ⟨x.word.toArray⟩, .string ⟨x.salt.toArray⟩, .int .i64 x.bytes, .int .i64 x.keys, .string ⟨x.gf.toArray⟩, .string ⟨x.gt.toArray⟩, .bool x.gr, .bool x.gw] #[.int .i64 0, .string ⟨#[]⟩, .string ⟨#[]⟩, .string ⟨#[]⟩, .string ⟨#[]⟩, .int .i64 0, .int .i64 0, .string ⟨#[]⟩, .string ⟨#[]⟩, .bool false, .bool false] #[.int .i64 x.kind, .string ⟨x.name.toArray⟩, .string ⟨#[]⟩, .string ⟨#[]⟩, .string ⟨#[]⟩, .int .i64 0, .int .i64 0, .string ⟨#[]⟩, .string ⟨#[]⟩, .bool false, .bool false]
  exact ⟨Q.1, Q.2.1, Q.2.2, (((Step.refl [] w).alloc _).alloc _).alloc _, rfl⟩
 rw [← hV, ← hb]
 clear hV hb
 have cc := (H1.out.1).cell
 have c0 := cc 0
 have c1 := cc 1
 have c2 := cc 2
 have c3 := cc 3
 have c4 := cc 4
 have c5 := cc 5
 have c6 := cc 6
 have c7 := cc 7
 have c8 := cc 8
 have c9 := cc 9
 have c10 := cc 10
 clear cc
 simp only [List.getElem?_toArray, List.getElem?_cons_zero, List.getElem?_cons_succ] at c0 c1 c2 c3 c4 c5 c6 c7 c8 c9 c10
 have cl := (H1.out.1).lt
 go_upto_region 9 with fail
 clear c0 c1 c2 c3 c4 c5 c6 c7 c8 c9 c10 cl
 have oc := (H1.out.2.2.1).cell
 have o0 := oc 0
 have o1 := oc 1
 have o2 := oc 2
 have o3 := oc 3
 have o4 := oc 4
 have o5 := oc 5
 have o6 := oc 6
 have o7 := oc 7
 have o8 := oc 8
 have o9 := oc 9
 have o10 := oc 10
 clear oc
 simp only [List.getElem?_toArray, List.getElem?_cons_zero, List.getElem?_cons_succ] at o0 o1 o2 o3 o4 o5 o6 o7 o8 o9 o10
 have ol := (H1.out.2.2.1).lt
 have ofz := (H1.out.2.2.1).frozen
 have of0 := ofz 0
 have of1 := ofz 1
 have of2 := ofz 2
 have of3 := ofz 3
 have of4 := ofz 4
 have of5 := ofz 5
 have of6 := ofz 6
 have of7 := ofz 7
 have of8 := ofz 8
 have of9 := ofz 9
 have of10 := ofz 10
 clear ofz
 refine wp_region_held_drew (S := fun V => Hid (Blk V b 139 #[.int .i64 x.kind, .string ⟨x.name.toArray⟩, .string ⟨x.other.toArray⟩, .string ⟨x.word.toArray⟩, .string ⟨x.salt.toArray⟩, .int .i64 x.bytes, .int .i64 x.keys, .string ⟨x.gf.toArray⟩, .string ⟨x.gt.toArray⟩, .bool x.gr, .bool x.gw])) (by kernel_rfl) (Lib.hid H1.out.1.drew) (fun hHeld => ?_)
 refine wpAnyH_take (i := 0) (v := ?_) rfl (by kernel_rfl) (by kernel_rfl) (by kernel_rfl) (fun _ _ _ h => h) (Or.inl ⟨by rfl, ?_⟩) hHeld ?_
 rotate_left
 ·intro w hSw1
  try dsimp only at hSw1
  go_simp
  try (with_reducible rfl)
 try simp only [Act.put, LsA, LsB, LsC, LsD, LsE, LsF]
 refine wpAnyH_take (i := 1) (v := ?_) rfl (by kernel_rfl) (by kernel_rfl) (by kernel_rfl) (fun _ _ _ h => h) (Or.inl ⟨by rfl, ?_⟩) hHeld ?_
 rotate_left
 ·intro w hSw1
  have c3 := hSw1.out.cell 3
  simp only [List.getElem?_toArray, List.getElem?_cons_zero, List.getElem?_cons_succ] at c3
  have cl := hSw1.out.lt
  go_simp
  try (with_reducible rfl)
 try simp only [Act.put, LsA, LsB, LsC, LsD, LsE, LsF]
 refine wpAnyH_take (i := 2) (v := ?_) rfl (by kernel_rfl) (by kernel_rfl) (by kernel_rfl) (fun _ _ _ h => h) (Or.inl ⟨by rfl, ?_⟩) hHeld ?_
 rotate_left
 ·intro w hSw1
  try dsimp only at hSw1
  go_simp
  try (with_reducible rfl)
 try simp only [Act.put, LsA, LsB, LsC, LsD, LsE, LsF]
 refine wpAnyH_take (i := 3) (v := ?_) rfl (by kernel_rfl) (by kernel_rfl) (by kernel_rfl) (fun _ _ _ h => h) (Or.inl ⟨by rfl, ?_⟩) hHeld ?_
 rotate_left
 ·intro w hSw1
  have c4 := hSw1.out.cell 4
  simp only [List.getElem?_toArray, List.getElem?_cons_zero, List.getElem?_cons_succ] at c4
  have cl := hSw1.out.lt
  go_simp
  try (with_reducible rfl)
 try simp only [Act.put, LsA, LsB, LsC, LsD, LsE, LsF]
 refine wpAnyH_take (i := 4) (v := ?_) rfl (by kernel_rfl) (by kernel_rfl) (by kernel_rfl) (fun _ _ _ h => h) (Or.inl ⟨by rfl, ?_⟩) hHeld ?_
 rotate_left
 ·intro w hSw1
  try dsimp only at hSw1
  go_simp
  try (with_reducible rfl)
 try simp only [Act.put, LsA, LsB, LsC, LsD, LsE, LsF]
 refine wpAnyH_ready (rs := [5]) (by kernel_rfl) (by simp) ?_
 refine AllReadyH.cons rfl (fun K hK => ?_) AllReadyH.nil
 go_simp
 skip
 go_wp2_with fail
 refine hK.out _ _ (Lib.hid (Blk.far (p := ⟨b + 1 + 1, 3, none⟩) hHeld.out (by simp; omega) _)) (fun hHeld2 => ?_)
 clear hK K hHeld
 try simp only [Act.put, LsA, LsB, LsC, LsD, LsE, LsF]
 refine wpAnyH_take (i := 6) (v := ?_) rfl (by kernel_rfl) (by kernel_rfl) (by kernel_rfl) (fun _ _ _ h => h) (Or.inl ⟨by rfl, ?_⟩) hHeld2 ?_
 rotate_left
 ·intro w hSw1
  try dsimp only at hSw1
  go_simp
  try (with_reducible rfl)
 try simp only [Act.put, LsA, LsB, LsC, LsD, LsE, LsF]
 refine wpAnyH_ready (rs := [7]) (by kernel_rfl) (by simp) ?_
 refine AllReadyH.cons rfl (fun K hK => ?_) AllReadyH.nil
 go_simp
 skip
 go_wp2_with fail
 refine hK.out _ _ (Lib.hid (Blk.far (p := ⟨b + 1 + 1, 4, none⟩) hHeld2.out (by simp; omega) _)) (fun hHeld3 => ?_)
 clear hK K hHeld2
 try simp only [Act.put, LsA, LsB, LsC, LsD, LsE, LsF]
 refine wpAnyH_done (by kernel_rfl) ?_ _
 go_upto_region 18 with fail
 obtain ⟨W, hW⟩ : ∃ W, W = ((V.setCell ⟨b + 1 + 1, 3, none⟩ (.string ⟨x.word.toArray⟩)).setCell ⟨b + 1 + 1, 4, none⟩ (.string ⟨x.salt.toArray⟩)).drew := ⟨_, rfl⟩
 have ss0 : Step [b + 1 + 1] [b + 1 + 1] V W := by
  rw [hW]
  refine Step.drew ?_
  iterate 2 refine Step.setCell ?_ (.inl (by simp)) _
  exact Step.refl _ _
 have N : Hid (Blk W (b + 1 + 1) 139 #[.int .i64 x.kind, .string ⟨x.name.toArray⟩, .string ⟨#[]⟩, .string ⟨x.word.toArray⟩, .string ⟨x.salt.toArray⟩, .int .i64 0, .int .i64 0, .string ⟨#[]⟩, .string ⟨#[]⟩, .bool false, .bool false] ∧ Blk W (b + 1) 139 #[.int .i64 0, .string ⟨#[]⟩, .string ⟨#[]⟩, .string ⟨#[]⟩, .string ⟨#[]⟩, .int .i64 0, .int .i64 0, .string ⟨#[]⟩, .string ⟨#[]⟩, .bool false, .bool false] ∧ Step [] [] w W) := ⟨by rw [hW]; have hq := ((H1.out.2.2.1.set 3 (.string ⟨x.word.toArray⟩)).set 4 (.string ⟨x.salt.toArray⟩)).drew; simpa using hq, H1.out.2.1.step ss0 (by simp), H1.out.2.2.2.1.out1' ss0 (by have := H1.out.2.2.2.2; simp; omega)⟩
 rw [← hW]
 clear hW ss0
 clear o0 o1 o2 o3 o4 o5 o6 o7 o8 o9 o10 ol of0 of1 of2 of3 of4 of5 of6 of7 of8 of9 of10
 have nc := (N.out.1).cell
 have n0 := nc 0
 have n1 := nc 1
 have n2 := nc 2
 have n3 := nc 3
 have n4 := nc 4
 have n5 := nc 5
 have n6 := nc 6
 have n7 := nc 7
 have n8 := nc 8
 have n9 := nc 9
 have n10 := nc 10
 clear nc
 simp only [List.getElem?_toArray, List.getElem?_cons_zero, List.getElem?_cons_succ] at n0 n1 n2 n3 n4 n5 n6 n7 n8 n9 n10
 have nl := (N.out.1).lt
 have zc := (N.out.2.1).cell
 have z0 := zc 0
 have z1 := zc 1
 have z2 := zc 2
 have z3 := zc 3
 have z4 := zc 4
 have z5 := zc 5
 have z6 := zc 6
 have z7 := zc 7
 have z8 := zc 8
 have z9 := zc 9
 have z10 := zc 10
 clear zc
 simp only [List.getElem?_toArray, List.getElem?_cons_zero, List.getElem?_cons_succ] at z0 z1 z2 z3 z4 z5 z6 z7 z8 z9 z10
 have zl := (N.out.2.1).lt
 have zfz := (N.out.2.1).frozen
 have zf0 := zfz 0
 have zf1 := zfz 1
 have zf2 := zfz 2
 have zf3 := zfz 3
 have zf4 := zfz 4
 have zf5 := zfz 5
 have zf6 := zfz 6
 have zf7 := zfz 7
 have zf8 := zfz 8
 have zf9 := zfz 9
 have zf10 := zfz 10
 clear zfz
 go_wp2_with fail
 change bodyPost _ _ _ _ _ (putL W (b + 1) 0 [.int .i64 x.kind, .string ⟨x.name.toArray⟩, .string ⟨#[]⟩, .string ⟨x.word.toArray⟩, .string ⟨x.salt.toArray⟩, .int .i64 0, .int .i64 0, .string ⟨#[]⟩, .string ⟨#[]⟩, .bool false, .bool false])
 have Q := N.out.2.1.put0 [.int .i64 x.kind, .string ⟨x.name.toArray⟩, .string ⟨#[]⟩, .string ⟨x.word.toArray⟩, .string ⟨x.salt.toArray⟩, .int .i64 0, .int .i64 0, .string ⟨#[]⟩, .string ⟨#[]⟩, .bool false, .bool false] rfl
 have ss := step_putL (b + 1) [.int .i64 x.kind, .string ⟨x.name.toArray⟩, .string ⟨#[]⟩, .string ⟨x.word.toArray⟩, .string ⟨x.salt.toArray⟩, .int .i64 0, .int .i64 0, .string ⟨#[]⟩, .string ⟨#[]⟩, .bool false, .bool false] 0 W
 obtain ⟨U, hU⟩ : ∃ U, U = putL W (b + 1) 0 [.int .i64 x.kind, .string ⟨x.name.toArray⟩, .string ⟨#[]⟩, .string ⟨x.word.toArray⟩, .string ⟨x.salt.toArray⟩, .int .i64 0, .int .i64 0, .string ⟨#[]⟩, .string ⟨#[]⟩, .bool false, .bool false] := ⟨_, rfl⟩
 rw [← hU] at Q ss ⊢
 clear hU
 clear z0 z1 z2 z3 z4 z5 z6 z7 z8 z9 z10 zl zf0 zf1 zf2 zf3 zf4 zf5 zf6 zf7 zf8 zf9 zf10
 clear n0 n1 n2 n3 n4 n5 n6 n7 n8 n9 n10 nl
 have pc := (Q).cell
 have p0 := pc 0
 have p1 := pc 1
 have p2 := pc 2
 have p3 := pc 3
 have p4 := pc 4
 have p5 := pc 5
 have p6 := pc 6
 have p7 := pc 7
 have p8 := pc 8
 have p9 := pc 9
 have p10 := pc 10
 clear pc
 simp only [List.getElem?_toArray, List.getElem?_cons_zero, List.getElem?_cons_succ] at p0 p1 p2 p3 p4 p5 p6 p7 p8 p9 p10
 have pl := (Q).lt
 have so := N.out.2.2.out1' ss (by have := H1.out.2.2.2.2; simp; omega)
 refine bodyPost_ret (v := .agg #[.int .i64 x.kind, .string ⟨x.name.toArray⟩, .string ⟨#[]⟩, .string ⟨x.word.toArray⟩, .string ⟨x.salt.toArray⟩, .int .i64 0, .int .i64 0, .string ⟨#[]⟩, .string ⟨#[]⟩, .bool false, .bool false]) ?_ rfl ⟨by rw [HC.out], so⟩
 simp [results, Try.results57, go_sem, p0, p1, p2, p3, p4, p5, p6, p7, p8, p9, p10]

set_option maxHeartbeats 4000000 in
theorem only8_any (x : Cm) (w : World) (hk : x.kind = 8) : Calls Try.prog 57 #[adV x] w fun e w' => e = .returned (adV (cleanC x)) ∧ Step [] [] w w' := by
 have HK := Lib.hid hk
 have k4 : (x.kind == 4) = false := by simp [hk]
 have k5 : (x.kind == 5) = false := by simp [hk]
 have k6 : (x.kind == 6) = false := by simp [hk]
 have k7 : (x.kind == 7) = false := by simp [hk]
 have k9 : (x.kind == 9) = false := by simp [hk]
 have k13 : (x.kind == 13) = false := by simp [hk]
 have k14 : (x.kind == 14) = false := by simp [hk]
 have k11 : (x.kind == 11) = false := by simp [hk]
 have k12 : (x.kind == 12) = false := by simp [hk]
 have HC := Lib.hid (show adV (cleanC x) = .agg #[.int .i64 x.kind, .string ⟨x.name.toArray⟩, .string ⟨#[]⟩, .string ⟨#[]⟩, .string ⟨#[]⟩, .int .i64 0, .int .i64 0, .string ⟨#[]⟩, .string ⟨#[]⟩, .bool false, .bool false] by simp [cleanC, onlyC, isK, hasN, hasO, hasW, hasS, hasQ, hasP, hasG, hk])
 clear hk
 go_enter Try.func57, Try.ntmps57
 go_upto_region 2 with fail
 obtain ⟨b, hb⟩ : ∃ b, b = w.heap.size := ⟨_, rfl⟩
 obtain ⟨V, hV⟩ : ∃ V, V = (((w.alloc (.cells #[.int .i64 x.kind, .string ⟨x.name.toArray⟩, .string ⟨x.other.toArray⟩, .string ⟨x.word.toArray⟩, .string ⟨x.salt.toArray⟩, .int .i64 x.bytes, .int .i64 x.keys, .string ⟨x.gf.toArray⟩, .string ⟨x.gt.toArray⟩, .bool x.gr, .bool x.gw] 139)).alloc (.cells #[.int .i64 0, .string ⟨#[]⟩, .string ⟨#[]⟩, .string ⟨#[]⟩, .string ⟨#[]⟩, .int .i64 0, .int .i64 0, .string ⟨#[]⟩, .string ⟨#[]⟩, .bool false, .bool false] 139)).alloc (.cells #[.int .i64 x.kind, .string ⟨x.name.toArray⟩, .string ⟨#[]⟩, .string ⟨#[]⟩, .string ⟨#[]⟩, .int .i64 0, .int .i64 0, .string ⟨#[]⟩, .string ⟨#[]⟩, .bool false, .bool false] 139)) := ⟨_, rfl⟩
 have H1 : Hid (Blk V b 139 #[.int .i64 x.kind, .string ⟨x.name.toArray⟩, .string ⟨x.other.toArray⟩, .string ⟨x.word.toArray⟩, .string ⟨x.salt.toArray⟩, .int .i64 x.bytes, .int .i64 x.keys, .string ⟨x.gf.toArray⟩, .string ⟨x.gt.toArray⟩, .bool x.gr, .bool x.gw] ∧ Blk V (b + 1) 139 #[.int .i64 0, .string ⟨#[]⟩, .string ⟨#[]⟩, .string ⟨#[]⟩, .string ⟨#[]⟩, .int .i64 0, .int .i64 0, .string ⟨#[]⟩, .string ⟨#[]⟩, .bool false, .bool false] ∧ Blk V (b + 1 + 1) 139 #[.int .i64 x.kind, .string ⟨x.name.toArray⟩, .string ⟨#[]⟩, .string ⟨#[]⟩, .string ⟨#[]⟩, .int .i64 0, .int .i64 0, .string ⟨#[]⟩, .string ⟨#[]⟩, .bool false, .bool false] ∧ Step [] [] w V ∧ b = w.heap.size) := by
  rw [hV, hb]
  have Q := blk3q w 139 139 139 #[.int .i64 x.kind, .string ⟨x.name.toArray⟩, .string ⟨x.other.toArray⟩, .string ⟨x.word.toArray⟩, .string ⟨x.salt.toArray⟩, .int .i64 x.bytes, .int .i64 x.keys, .string ⟨x.gf.toArray⟩, .string ⟨x.gt.toArray⟩, .bool x.gr, .bool x.gw] #[.int .i64 0, .string ⟨#[]⟩, .string ⟨#[]⟩, .string ⟨#[]⟩, .string ⟨#[]⟩, .int .i64 0, .int .i64 0, .string ⟨#[]⟩, .string ⟨#[]⟩, .bool false, .bool false] #[.int .i64 x.kind, .string ⟨x.name.toArray⟩, .string ⟨#[]⟩, .string ⟨#[]⟩, .string ⟨#[]⟩, .int .i64 0, .int .i64 0, .string ⟨#[]⟩, .string ⟨#[]⟩, .bool false, .bool false]
  exact ⟨Q.1, Q.2.1, Q.2.2, (((Step.refl [] w).alloc _).alloc _).alloc _, rfl⟩
 rw [← hV, ← hb]
 clear hV hb
 have cc := (H1.out.1).cell
 have c0 := cc 0
 have c1 := cc 1
 have c2 := cc 2
 have c3 := cc 3
 have c4 := cc 4
 have c5 := cc 5
 have c6 := cc 6
 have c7 := cc 7
 have c8 := cc 8
 have c9 := cc 9
 have c10 := cc 10
 clear cc
 simp only [List.getElem?_toArray, List.getElem?_cons_zero, List.getElem?_cons_succ] at c0 c1 c2 c3 c4 c5 c6 c7 c8 c9 c10
 have cl := (H1.out.1).lt
 go_upto_region 18 with fail
 obtain ⟨W, hW⟩ : ∃ W, W = V := ⟨_, rfl⟩
 have N : Hid (Blk W (b + 1 + 1) 139 #[.int .i64 x.kind, .string ⟨x.name.toArray⟩, .string ⟨#[]⟩, .string ⟨#[]⟩, .string ⟨#[]⟩, .int .i64 0, .int .i64 0, .string ⟨#[]⟩, .string ⟨#[]⟩, .bool false, .bool false] ∧ Blk W (b + 1) 139 #[.int .i64 0, .string ⟨#[]⟩, .string ⟨#[]⟩, .string ⟨#[]⟩, .string ⟨#[]⟩, .int .i64 0, .int .i64 0, .string ⟨#[]⟩, .string ⟨#[]⟩, .bool false, .bool false] ∧ Step [] [] w W) := by rw [hW]; exact ⟨H1.out.2.2.1, H1.out.2.1, H1.out.2.2.2.1⟩
 rw [← hW]
 clear hW
 clear c0 c1 c2 c3 c4 c5 c6 c7 c8 c9 c10 cl
 have nc := (N.out.1).cell
 have n0 := nc 0
 have n1 := nc 1
 have n2 := nc 2
 have n3 := nc 3
 have n4 := nc 4
 have n5 := nc 5
 have n6 := nc 6
 have n7 := nc 7
 have n8 := nc 8
 have n9 := nc 9
 have n10 := nc 10
 clear nc
 simp only [List.getElem?_toArray, List.getElem?_cons_zero, List.getElem?_cons_succ] at n0 n1 n2 n3 n4 n5 n6 n7 n8 n9 n10
 have nl := (N.out.1).lt
 have zc := (N.out.2.1).cell
 have z0 := zc 0
 have z1 := zc 1
 have z2 := zc 2
 have z3 := zc 3
 have z4 := zc 4
 have z5 := zc 5
 have z6 := zc 6
 have z7 := zc 7
 have z8 := zc 8
 have z9 := zc 9
 have z10 := zc 10
 clear zc
 simp only [List.getElem?_toArray, List.getElem?_cons_zero, List.getElem?_cons_succ] at z0 z1 z2 z3 z4 z5 z6 z7 z8 z9 z10
 have zl := (N.out.2.1).lt
 have zfz := (N.out.2.1).frozen
 have zf0 := zfz 0
 have zf1 := zfz 1
 have zf2 := zfz 2
 have zf3 := zfz 3
 have zf4 := zfz 4
 have zf5 := zfz 5
 have zf6 := zfz 6
 have zf7 := zfz 7
 have zf8 := zfz 8
 have zf9 := zfz 9
 have zf10 := zfz 10
 clear zfz
 go_wp2_with fail
 change bodyPost _ _ _ _ _ (putL W (b + 1) 0 [.int .i64 x.kind, .string ⟨x.name.toArray⟩, .string ⟨#[]⟩, .string ⟨#[]⟩, .string ⟨#[]⟩, .int .i64 0, .int .i64 0, .string ⟨#[]⟩, .string ⟨#[]⟩, .bool false, .bool false])
 have Q := N.out.2.1.put0 [.int .i64 x.kind, .string ⟨x.name.toArray⟩, .string ⟨#[]⟩, .string ⟨#[]⟩, .string ⟨#[]⟩, .int .i64 0, .int .i64 0, .string ⟨#[]⟩, .string ⟨#[]⟩, .bool false, .bool false] rfl
 have ss := step_putL (b + 1) [.int .i64 x.kind, .string ⟨x.name.toArray⟩, .string ⟨#[]⟩, .string ⟨#[]⟩, .string ⟨#[]⟩, .int .i64 0, .int .i64 0, .string ⟨#[]⟩, .string ⟨#[]⟩, .bool false, .bool false] 0 W
 obtain ⟨U, hU⟩ : ∃ U, U = putL W (b + 1) 0 [.int .i64 x.kind, .string ⟨x.name.toArray⟩, .string ⟨#[]⟩, .string ⟨#[]⟩, .string ⟨#[]⟩, .int .i64 0, .int .i64 0, .string ⟨#[]⟩, .string ⟨#[]⟩, .bool false, .bool false] := ⟨_, rfl⟩
 rw [← hU] at Q ss ⊢
 clear hU
 clear z0 z1 z2 z3 z4 z5 z6 z7 z8 z9 z10 zl zf0 zf1 zf2 zf3 zf4 zf5 zf6 zf7 zf8 zf9 zf10
 clear n0 n1 n2 n3 n4 n5 n6 n7 n8 n9 n10 nl
 have pc := (Q).cell
 have p0 := pc 0
 have p1 := pc 1
 have p2 := pc 2
 have p3 := pc 3
 have p4 := pc 4
 have p5 := pc 5
 have p6 := pc 6
 have p7 := pc 7
 have p8 := pc 8
 have p9 := pc 9
 have p10 := pc 10
 clear pc
 simp only [List.getElem?_toArray, List.getElem?_cons_zero, List.getElem?_cons_succ] at p0 p1 p2 p3 p4 p5 p6 p7 p8 p9 p10
 have pl := (Q).lt
 have so := N.out.2.2.out1' ss (by have := H1.out.2.2.2.2; simp; omega)
 refine bodyPost_ret (v := .agg #[.int .i64 x.kind, .string ⟨x.name.toArray⟩, .string ⟨#[]⟩, .string ⟨#[]⟩, .string ⟨#[]⟩, .int .i64 0, .int .i64 0, .string ⟨#[]⟩, .string ⟨#[]⟩, .bool false, .bool false]) ?_ rfl ⟨by rw [HC.out], so⟩
 simp [results, Try.results57, go_sem, p0, p1, p2, p3, p4, p5, p6, p7, p8, p9, p10]

set_option maxHeartbeats 4000000 in
theorem only9_any (x : Cm) (w : World) (hk : x.kind = 9) : Calls Try.prog 57 #[adV x] w fun e w' => e = .returned (adV (cleanC x)) ∧ Step [] [] w w' := by
 have HK := Lib.hid hk
 have k4 : (x.kind == 4) = false := by simp [hk]
 have k5 : (x.kind == 5) = false := by simp [hk]
 have k6 : (x.kind == 6) = false := by simp [hk]
 have k7 : (x.kind == 7) = false := by simp [hk]
 have k9 : (x.kind == 9) = true := by simp [hk]
 have k13 : (x.kind == 13) = false := by simp [hk]
 have k14 : (x.kind == 14) = false := by simp [hk]
 have k11 : (x.kind == 11) = false := by simp [hk]
 have k12 : (x.kind == 12) = false := by simp [hk]
 have HC := Lib.hid (show adV (cleanC x) = .agg #[.int .i64 x.kind, .string ⟨x.name.toArray⟩, .string ⟨x.other.toArray⟩, .string ⟨#[]⟩, .string ⟨#[]⟩, .int .i64 0, .int .i64 0, .string ⟨#[]⟩, .string ⟨#[]⟩, .bool false, .bool false] by simp [cleanC, onlyC, isK, hasN, hasO, hasW, hasS, hasQ, hasP, hasG, hk])
 clear hk
 go_enter Try.func57, Try.ntmps57
 go_upto_region 2 with fail
 obtain ⟨b, hb⟩ : ∃ b, b = w.heap.size := ⟨_, rfl⟩
 obtain ⟨V, hV⟩ : ∃ V, V = (((w.alloc (.cells #[.int .i64 x.kind, .string ⟨x.name.toArray⟩, .string ⟨x.other.toArray⟩, .string ⟨x.word.toArray⟩, .string ⟨x.salt.toArray⟩, .int .i64 x.bytes, .int .i64 x.keys, .string ⟨x.gf.toArray⟩, .string ⟨x.gt.toArray⟩, .bool x.gr, .bool x.gw] 139)).alloc (.cells #[.int .i64 0, .string ⟨#[]⟩, .string ⟨#[]⟩, .string ⟨#[]⟩, .string ⟨#[]⟩, .int .i64 0, .int .i64 0, .string ⟨#[]⟩, .string ⟨#[]⟩, .bool false, .bool false] 139)).alloc (.cells #[.int .i64 x.kind, .string ⟨x.name.toArray⟩, .string ⟨#[]⟩, .string ⟨#[]⟩, .string ⟨#[]⟩, .int .i64 0, .int .i64 0, .string ⟨#[]⟩, .string ⟨#[]⟩, .bool false, .bool false] 139)) := ⟨_, rfl⟩
 have H1 : Hid (Blk V b 139 #[.int .i64 x.kind, .string ⟨x.name.toArray⟩, .string ⟨x.other.toArray⟩, .string ⟨x.word.toArray⟩, .string ⟨x.salt.toArray⟩, .int .i64 x.bytes, .int .i64 x.keys, .string ⟨x.gf.toArray⟩, .string ⟨x.gt.toArray⟩, .bool x.gr, .bool x.gw] ∧ Blk V (b + 1) 139 #[.int .i64 0, .string ⟨#[]⟩, .string ⟨#[]⟩, .string ⟨#[]⟩, .string ⟨#[]⟩, .int .i64 0, .int .i64 0, .string ⟨#[]⟩, .string ⟨#[]⟩, .bool false, .bool false] ∧ Blk V (b + 1 + 1) 139 #[.int .i64 x.kind, .string ⟨x.name.toArray⟩, .string ⟨#[]⟩, .string ⟨#[]⟩, .string ⟨#[]⟩, .int .i64 0, .int .i64 0, .string ⟨#[]⟩, .string ⟨#[]⟩, .bool false, .bool false] ∧ Step [] [] w V ∧ b = w.heap.size) := by
  rw [hV, hb]
  have Q := blk3q w 139 139 139 #[.int .i64 x.kind, .string ⟨x.name.toArray⟩, .string ⟨x.other.toArray⟩, .string ⟨x.word.toArray⟩, .string ⟨x.salt.toArray⟩, .int .i64 x.bytes, .int .i64 x.keys, .string ⟨x.gf.toArray⟩, .string ⟨x.gt.toArray⟩, .bool x.gr, .bool x.gw] #[.int .i64 0, .string ⟨#[]⟩, .string ⟨#[]⟩, .string ⟨#[]⟩, .string ⟨#[]⟩, .int .i64 0, .int .i64 0, .string ⟨#[]⟩, .string ⟨#[]⟩, .bool false, .bool false] #[.int .i64 x.kind, .string ⟨x.name.toArray⟩, .string ⟨#[]⟩, .string ⟨#[]⟩, .string ⟨#[]⟩, .int .i64 0, .int .i64 0, .string ⟨#[]⟩, .string ⟨#[]⟩, .bool false, .bool false]
  exact ⟨Q.1, Q.2.1, Q.2.2, (((Step.refl [] w).alloc _).alloc _).alloc _, rfl⟩
 rw [← hV, ← hb]
 clear hV hb
 have cc := (H1.out.1).cell
 have c0 := cc 0
 have c1 := cc 1
 have c2 := cc 2
 have c3 := cc 3
 have c4 := cc 4
 have c5 := cc 5
 have c6 := cc 6
 have c7 := cc 7
 have c8 := cc 8
 have c9 := cc 9
 have c10 := cc 10
 clear cc
 simp only [List.getElem?_toArray, List.getElem?_cons_zero, List.getElem?_cons_succ] at c0 c1 c2 c3 c4 c5 c6 c7 c8 c9 c10
 have cl := (H1.out.1).lt
 go_upto_region 13 with fail
 have oc := (H1.out.2.2.1).cell
 have o0 := oc 0
 have o1 := oc 1
 have o2 := oc 2
 have o3 := oc 3
 have o4 := oc 4
 have o5 := oc 5
 have o6 := oc 6
 have o7 := oc 7
 have o8 := oc 8
 have o9 := oc 9
 have o10 := oc 10
 clear oc
 simp only [List.getElem?_toArray, List.getElem?_cons_zero, List.getElem?_cons_succ] at o0 o1 o2 o3 o4 o5 o6 o7 o8 o9 o10
 have ol := (H1.out.2.2.1).lt
 have ofz := (H1.out.2.2.1).frozen
 have of0 := ofz 0
 have of1 := ofz 1
 have of2 := ofz 2
 have of3 := ofz 3
 have of4 := ofz 4
 have of5 := ofz 5
 have of6 := ofz 6
 have of7 := ofz 7
 have of8 := ofz 8
 have of9 := ofz 9
 have of10 := ofz 10
 clear ofz
 go_upto_region 18 with fail
 obtain ⟨W, hW⟩ : ∃ W, W = (V.setCell ⟨b + 1 + 1, 2, none⟩ (.string ⟨x.other.toArray⟩)) := ⟨_, rfl⟩
 have ss0 : Step [b + 1 + 1] [b + 1 + 1] V W := by
  rw [hW]
  iterate 1 refine Step.setCell ?_ (.inl (by simp)) _
  exact Step.refl _ _
 have N : Hid (Blk W (b + 1 + 1) 139 #[.int .i64 x.kind, .string ⟨x.name.toArray⟩, .string ⟨x.other.toArray⟩, .string ⟨#[]⟩, .string ⟨#[]⟩, .int .i64 0, .int .i64 0, .string ⟨#[]⟩, .string ⟨#[]⟩, .bool false, .bool false] ∧ Blk W (b + 1) 139 #[.int .i64 0, .string ⟨#[]⟩, .string ⟨#[]⟩, .string ⟨#[]⟩, .string ⟨#[]⟩, .int .i64 0, .int .i64 0, .string ⟨#[]⟩, .string ⟨#[]⟩, .bool false, .bool false] ∧ Step [] [] w W) := ⟨by rw [hW]; have hq := (H1.out.2.2.1.set 2 (.string ⟨x.other.toArray⟩)); simpa using hq, H1.out.2.1.step ss0 (by simp), H1.out.2.2.2.1.out1' ss0 (by have := H1.out.2.2.2.2; simp; omega)⟩
 rw [← hW]
 clear hW ss0
 clear o0 o1 o2 o3 o4 o5 o6 o7 o8 o9 o10 ol of0 of1 of2 of3 of4 of5 of6 of7 of8 of9 of10
 clear c0 c1 c2 c3 c4 c5 c6 c7 c8 c9 c10 cl
 have nc := (N.out.1).cell
 have n0 := nc 0
 have n1 := nc 1
 have n2 := nc 2
 have n3 := nc 3
 have n4 := nc 4
 have n5 := nc 5
 have n6 := nc 6
 have n7 := nc 7
 have n8 := nc 8
 have n9 := nc 9
 have n10 := nc 10
 clear nc
 simp only [List.getElem?_toArray, List.getElem?_cons_zero, List.getElem?_cons_succ] at n0 n1 n2 n3 n4 n5 n6 n7 n8 n9 n10
 have nl := (N.out.1).lt
 have zc := (N.out.2.1).cell
 have z0 := zc 0
 have z1 := zc 1
 have z2 := zc 2
 have z3 := zc 3
 have z4 := zc 4
 have z5 := zc 5
 have z6 := zc 6
 have z7 := zc 7
 have z8 := zc 8
 have z9 := zc 9
 have z10 := zc 10
 clear zc
 simp only [List.getElem?_toArray, List.getElem?_cons_zero, List.getElem?_cons_succ] at z0 z1 z2 z3 z4 z5 z6 z7 z8 z9 z10
 have zl := (N.out.2.1).lt
 have zfz := (N.out.2.1).frozen
 have zf0 := zfz 0
 have zf1 := zfz 1
 have zf2 := zfz 2
 have zf3 := zfz 3
 have zf4 := zfz 4
 have zf5 := zfz 5
 have zf6 := zfz 6
 have zf7 := zfz 7
 have zf8 := zfz 8
 have zf9 := zfz 9
 have zf10 := zfz 10
 clear zfz
 go_wp2_with fail
 change bodyPost _ _ _ _ _ (putL W (b + 1) 0 [.int .i64 x.kind, .string ⟨x.name.toArray⟩, .string ⟨x.other.toArray⟩, .string ⟨#[]⟩, .string ⟨#[]⟩, .int .i64 0, .int .i64 0, .string ⟨#[]⟩, .string ⟨#[]⟩, .bool false, .bool false])
 have Q := N.out.2.1.put0 [.int .i64 x.kind, .string ⟨x.name.toArray⟩, .string ⟨x.other.toArray⟩, .string ⟨#[]⟩, .string ⟨#[]⟩, .int .i64 0, .int .i64 0, .string ⟨#[]⟩, .string ⟨#[]⟩, .bool false, .bool false] rfl
 have ss := step_putL (b + 1) [.int .i64 x.kind, .string ⟨x.name.toArray⟩, .string ⟨x.other.toArray⟩, .string ⟨#[]⟩, .string ⟨#[]⟩, .int .i64 0, .int .i64 0, .string ⟨#[]⟩, .string ⟨#[]⟩, .bool false, .bool false] 0 W
 obtain ⟨U, hU⟩ : ∃ U, U = putL W (b + 1) 0 [.int .i64 x.kind, .string ⟨x.name.toArray⟩, .string ⟨x.other.toArray⟩, .string ⟨#[]⟩, .string ⟨#[]⟩, .int .i64 0, .int .i64 0, .string ⟨#[]⟩, .string ⟨#[]⟩, .bool false, .bool false] := ⟨_, rfl⟩
 rw [← hU] at Q ss ⊢
 clear hU
 clear z0 z1 z2 z3 z4 z5 z6 z7 z8 z9 z10 zl zf0 zf1 zf2 zf3 zf4 zf5 zf6 zf7 zf8 zf9 zf10
 clear n0 n1 n2 n3 n4 n5 n6 n7 n8 n9 n10 nl
 have pc := (Q).cell
 have p0 := pc 0
 have p1 := pc 1
 have p2 := pc 2
 have p3 := pc 3
 have p4 := pc 4
 have p5 := pc 5
 have p6 := pc 6
 have p7 := pc 7
 have p8 := pc 8
 have p9 := pc 9
 have p10 := pc 10
 clear pc
 simp only [List.getElem?_toArray, List.getElem?_cons_zero, List.getElem?_cons_succ] at p0 p1 p2 p3 p4 p5 p6 p7 p8 p9 p10
 have pl := (Q).lt
 have so := N.out.2.2.out1' ss (by have := H1.out.2.2.2.2; simp; omega)
 refine bodyPost_ret (v := .agg #[.int .i64 x.kind, .string ⟨x.name.toArray⟩, .string ⟨x.other.toArray⟩, .string ⟨#[]⟩, .string ⟨#[]⟩, .int .i64 0, .int .i64 0, .string ⟨#[]⟩, .string ⟨#[]⟩, .bool false, .bool false]) ?_ rfl ⟨by rw [HC.out], so⟩
 simp [results, Try.results57, go_sem, p0, p1, p2, p3, p4, p5, p6, p7, p8, p9, p10]

set_option maxHeartbeats 4000000 in
theorem only10_any (x : Cm) (w : World) (hk : x.kind = 10) : Calls Try.prog 57 #[adV x] w fun e w' => e = .returned (adV (cleanC x)) ∧ Step [] [] w w' := by
 have HK := Lib.hid hk
 have k4 : (x.kind == 4) = false := by simp [hk]
 have k5 : (x.kind == 5) = false := by simp [hk]
 have k6 : (x.kind == 6) = false := by simp [hk]
 have k7 : (x.kind == 7) = false := by simp [hk]
 have k9 : (x.kind == 9) = false := by simp [hk]
 have k13 : (x.kind == 13) = false := by simp [hk]
 have k14 : (x.kind == 14) = false := by simp [hk]
 have k11 : (x.kind == 11) = false := by simp [hk]
 have k12 : (x.kind == 12) = false := by simp [hk]
 have HC := Lib.hid (show adV (cleanC x) = .agg #[.int .i64 x.kind, .string ⟨x.name.toArray⟩, .string ⟨#[]⟩, .string ⟨#[]⟩, .string ⟨#[]⟩, .int .i64 0, .int .i64 0, .string ⟨#[]⟩, .string ⟨#[]⟩, .bool false, .bool false] by simp [cleanC, onlyC, isK, hasN, hasO, hasW, hasS, hasQ, hasP, hasG, hk])
 clear hk
 go_enter Try.func57, Try.ntmps57
 go_upto_region 2 with fail
 obtain ⟨b, hb⟩ : ∃ b, b = w.heap.size := ⟨_, rfl⟩
 obtain ⟨V, hV⟩ : ∃ V, V = (((w.alloc (.cells #[.int .i64 x.kind, .string ⟨x.name.toArray⟩, .string ⟨x.other.toArray⟩, .string ⟨x.word.toArray⟩, .string ⟨x.salt.toArray⟩, .int .i64 x.bytes, .int .i64 x.keys, .string ⟨x.gf.toArray⟩, .string ⟨x.gt.toArray⟩, .bool x.gr, .bool x.gw] 139)).alloc (.cells #[.int .i64 0, .string ⟨#[]⟩, .string ⟨#[]⟩, .string ⟨#[]⟩, .string ⟨#[]⟩, .int .i64 0, .int .i64 0, .string ⟨#[]⟩, .string ⟨#[]⟩, .bool false, .bool false] 139)).alloc (.cells #[.int .i64 x.kind, .string ⟨x.name.toArray⟩, .string ⟨#[]⟩, .string ⟨#[]⟩, .string ⟨#[]⟩, .int .i64 0, .int .i64 0, .string ⟨#[]⟩, .string ⟨#[]⟩, .bool false, .bool false] 139)) := ⟨_, rfl⟩
 have H1 : Hid (Blk V b 139 #[.int .i64 x.kind, .string ⟨x.name.toArray⟩, .string ⟨x.other.toArray⟩, .string ⟨x.word.toArray⟩, .string ⟨x.salt.toArray⟩, .int .i64 x.bytes, .int .i64 x.keys, .string ⟨x.gf.toArray⟩, .string ⟨x.gt.toArray⟩, .bool x.gr, .bool x.gw] ∧ Blk V (b + 1) 139 #[.int .i64 0, .string ⟨#[]⟩, .string ⟨#[]⟩, .string ⟨#[]⟩, .string ⟨#[]⟩, .int .i64 0, .int .i64 0, .string ⟨#[]⟩, .string ⟨#[]⟩, .bool false, .bool false] ∧ Blk V (b + 1 + 1) 139 #[.int .i64 x.kind, .string ⟨x.name.toArray⟩, .string ⟨#[]⟩, .string ⟨#[]⟩, .string ⟨#[]⟩, .int .i64 0, .int .i64 0, .string ⟨#[]⟩, .string ⟨#[]⟩, .bool false, .bool false] ∧ Step [] [] w V ∧ b = w.heap.size) := by
  rw [hV, hb]
  have Q := blk3q w 139 139 139 #[.int .i64 x.kind, .string ⟨x.name.toArray⟩, .string ⟨x.other.toArray⟩, .string ⟨x.word.toArray⟩, .string ⟨x.salt.toArray⟩, .int .i64 x.bytes, .int .i64 x.keys, .string ⟨x.gf.toArray⟩, .string ⟨x.gt.toArray⟩, .bool x.gr, .bool x.gw] #[.int .i64 0, .string ⟨#[]⟩, .string ⟨#[]⟩, .string ⟨#[]⟩, .string ⟨#[]⟩, .int .i64 0, .int .i64 0, .string ⟨#[]⟩, .string ⟨#[]⟩, .bool false, .bool false] #[.int .i64 x.kind, .string ⟨x.name.toArray⟩, .string ⟨#[]⟩, .string ⟨#[]⟩, .string ⟨#[]⟩, .int .i64 0, .int .i64 0, .string ⟨#[]⟩, .string ⟨#[]⟩, .bool false, .bool false]
  exact ⟨Q.1, Q.2.1, Q.2.2, (((Step.refl [] w).alloc _).alloc _).alloc _, rfl⟩
 rw [← hV, ← hb]
 clear hV hb
 have cc := (H1.out.1).cell
 have c0 := cc 0
 have c1 := cc 1
 have c2 := cc 2
 have c3 := cc 3
 have c4 := cc 4
 have c5 := cc 5
 have c6 := cc 6
 have c7 := cc 7
 have c8 := cc 8
 have c9 := cc 9
 have c10 := cc 10
 clear cc
 simp only [List.getElem?_toArray, List.getElem?_cons_zero, List.getElem?_cons_succ] at c0 c1 c2 c3 c4 c5 c6 c7 c8 c9 c10
 have cl := (H1.out.1).lt
 go_upto_region 18 with fail
 obtain ⟨W, hW⟩ : ∃ W, W = V := ⟨_, rfl⟩
 have N : Hid (Blk W (b + 1 + 1) 139 #[.int .i64 x.kind, .string ⟨x.name.toArray⟩, .string ⟨#[]⟩, .string ⟨#[]⟩, .string ⟨#[]⟩, .int .i64 0, .int .i64 0, .string ⟨#[]⟩, .string ⟨#[]⟩, .bool false, .bool false] ∧ Blk W (b + 1) 139 #[.int .i64 0, .string ⟨#[]⟩, .string ⟨#[]⟩, .string ⟨#[]⟩, .string ⟨#[]⟩, .int .i64 0, .int .i64 0, .string ⟨#[]⟩, .string ⟨#[]⟩, .bool false, .bool false] ∧ Step [] [] w W) := by rw [hW]; exact ⟨H1.out.2.2.1, H1.out.2.1, H1.out.2.2.2.1⟩
 rw [← hW]
 clear hW
 clear c0 c1 c2 c3 c4 c5 c6 c7 c8 c9 c10 cl
 have nc := (N.out.1).cell
 have n0 := nc 0
 have n1 := nc 1
 have n2 := nc 2
 have n3 := nc 3
 have n4 := nc 4
 have n5 := nc 5
 have n6 := nc 6
 have n7 := nc 7
 have n8 := nc 8
 have n9 := nc 9
 have n10 := nc 10
 clear nc
 simp only [List.getElem?_toArray, List.getElem?_cons_zero, List.getElem?_cons_succ] at n0 n1 n2 n3 n4 n5 n6 n7 n8 n9 n10
 have nl := (N.out.1).lt
 have zc := (N.out.2.1).cell
 have z0 := zc 0
 have z1 := zc 1
 have z2 := zc 2
 have z3 := zc 3
 have z4 := zc 4
 have z5 := zc 5
 have z6 := zc 6
 have z7 := zc 7
 have z8 := zc 8
 have z9 := zc 9
 have z10 := zc 10
 clear zc
 simp only [List.getElem?_toArray, List.getElem?_cons_zero, List.getElem?_cons_succ] at z0 z1 z2 z3 z4 z5 z6 z7 z8 z9 z10
 have zl := (N.out.2.1).lt
 have zfz := (N.out.2.1).frozen
 have zf0 := zfz 0
 have zf1 := zfz 1
 have zf2 := zfz 2
 have zf3 := zfz 3
 have zf4 := zfz 4
 have zf5 := zfz 5
 have zf6 := zfz 6
 have zf7 := zfz 7
 have zf8 := zfz 8
 have zf9 := zfz 9
 have zf10 := zfz 10
 clear zfz
 go_wp2_with fail
 change bodyPost _ _ _ _ _ (putL W (b + 1) 0 [.int .i64 x.kind, .string ⟨x.name.toArray⟩, .string ⟨#[]⟩, .string ⟨#[]⟩, .string ⟨#[]⟩, .int .i64 0, .int .i64 0, .string ⟨#[]⟩, .string ⟨#[]⟩, .bool false, .bool false])
 have Q := N.out.2.1.put0 [.int .i64 x.kind, .string ⟨x.name.toArray⟩, .string ⟨#[]⟩, .string ⟨#[]⟩, .string ⟨#[]⟩, .int .i64 0, .int .i64 0, .string ⟨#[]⟩, .string ⟨#[]⟩, .bool false, .bool false] rfl
 have ss := step_putL (b + 1) [.int .i64 x.kind, .string ⟨x.name.toArray⟩, .string ⟨#[]⟩, .string ⟨#[]⟩, .string ⟨#[]⟩, .int .i64 0, .int .i64 0, .string ⟨#[]⟩, .string ⟨#[]⟩, .bool false, .bool false] 0 W
 obtain ⟨U, hU⟩ : ∃ U, U = putL W (b + 1) 0 [.int .i64 x.kind, .string ⟨x.name.toArray⟩, .string ⟨#[]⟩, .string ⟨#[]⟩, .string ⟨#[]⟩, .int .i64 0, .int .i64 0, .string ⟨#[]⟩, .string ⟨#[]⟩, .bool false, .bool false] := ⟨_, rfl⟩
 rw [← hU] at Q ss ⊢
 clear hU
 clear z0 z1 z2 z3 z4 z5 z6 z7 z8 z9 z10 zl zf0 zf1 zf2 zf3 zf4 zf5 zf6 zf7 zf8 zf9 zf10
 clear n0 n1 n2 n3 n4 n5 n6 n7 n8 n9 n10 nl
 have pc := (Q).cell
 have p0 := pc 0
 have p1 := pc 1
 have p2 := pc 2
 have p3 := pc 3
 have p4 := pc 4
 have p5 := pc 5
 have p6 := pc 6
 have p7 := pc 7
 have p8 := pc 8
 have p9 := pc 9
 have p10 := pc 10
 clear pc
 simp only [List.getElem?_toArray, List.getElem?_cons_zero, List.getElem?_cons_succ] at p0 p1 p2 p3 p4 p5 p6 p7 p8 p9 p10
 have pl := (Q).lt
 have so := N.out.2.2.out1' ss (by have := H1.out.2.2.2.2; simp; omega)
 refine bodyPost_ret (v := .agg #[.int .i64 x.kind, .string ⟨x.name.toArray⟩, .string ⟨#[]⟩, .string ⟨#[]⟩, .string ⟨#[]⟩, .int .i64 0, .int .i64 0, .string ⟨#[]⟩, .string ⟨#[]⟩, .bool false, .bool false]) ?_ rfl ⟨by rw [HC.out], so⟩
 simp [results, Try.results57, go_sem, p0, p1, p2, p3, p4, p5, p6, p7, p8, p9, p10]

set_option maxHeartbeats 4000000 in
theorem only11_any (x : Cm) (w : World) (hk : x.kind = 11) : Calls Try.prog 57 #[adV x] w fun e w' => e = .returned (adV (cleanC x)) ∧ Step [] [] w w' := by
 have HK := Lib.hid hk
 have k4 : (x.kind == 4) = false := by simp [hk]
 have k5 : (x.kind == 5) = false := by simp [hk]
 have k6 : (x.kind == 6) = false := by simp [hk]
 have k7 : (x.kind == 7) = false := by simp [hk]
 have k9 : (x.kind == 9) = false := by simp [hk]
 have k13 : (x.kind == 13) = false := by simp [hk]
 have k14 : (x.kind == 14) = false := by simp [hk]
 have k11 : (x.kind == 11) = true := by simp [hk]
 have k12 : (x.kind == 12) = false := by simp [hk]
 have HC := Lib.hid (show adV (cleanC x) = .agg #[.int .i64 x.kind, .string ⟨x.name.toArray⟩, .string ⟨#[]⟩, .string ⟨#[]⟩, .string ⟨#[]⟩, .int .i64 0, .int .i64 0, .string ⟨x.gf.toArray⟩, .string ⟨x.gt.toArray⟩, .bool x.gr, .bool x.gw] by simp [cleanC, onlyC, isK, hasN, hasO, hasW, hasS, hasQ, hasP, hasG, hk])
 clear hk
 go_enter Try.func57, Try.ntmps57
 go_upto_region 2 with fail
 obtain ⟨b, hb⟩ : ∃ b, b = w.heap.size := ⟨_, rfl⟩
 obtain ⟨V, hV⟩ : ∃ V, V = (((w.alloc (.cells #[.int .i64 x.kind, .string ⟨x.name.toArray⟩, .string ⟨x.other.toArray⟩, .string ⟨x.word.toArray⟩, .string ⟨x.salt.toArray⟩, .int .i64 x.bytes, .int .i64 x.keys, .string ⟨x.gf.toArray⟩, .string ⟨x.gt.toArray⟩, .bool x.gr, .bool x.gw] 139)).alloc (.cells #[.int .i64 0, .string ⟨#[]⟩, .string ⟨#[]⟩, .string ⟨#[]⟩, .string ⟨#[]⟩, .int .i64 0, .int .i64 0, .string ⟨#[]⟩, .string ⟨#[]⟩, .bool false, .bool false] 139)).alloc (.cells #[.int .i64 x.kind, .string ⟨x.name.toArray⟩, .string ⟨#[]⟩, .string ⟨#[]⟩, .string ⟨#[]⟩, .int .i64 0, .int .i64 0, .string ⟨#[]⟩, .string ⟨#[]⟩, .bool false, .bool false] 139)) := ⟨_, rfl⟩
 have H1 : Hid (Blk V b 139 #[.int .i64 x.kind, .string ⟨x.name.toArray⟩, .string ⟨x.other.toArray⟩, .string ⟨x.word.toArray⟩, .string ⟨x.salt.toArray⟩, .int .i64 x.bytes, .int .i64 x.keys, .string ⟨x.gf.toArray⟩, .string ⟨x.gt.toArray⟩, .bool x.gr, .bool x.gw] ∧ Blk V (b + 1) 139 #[.int .i64 0, .string ⟨#[]⟩, .string ⟨#[]⟩, .string ⟨#[]⟩, .string ⟨#[]⟩, .int .i64 0, .int .i64 0, .string ⟨#[]⟩, .string ⟨#[]⟩, .bool false, .bool false] ∧ Blk V (b + 1 + 1) 139 #[.int .i64 x.kind, .string ⟨x.name.toArray⟩, .string ⟨#[]⟩, .string ⟨#[]⟩, .string ⟨#[]⟩, .int .i64 0, .int .i64 0, .string ⟨#[]⟩, .string ⟨#[]⟩, .bool false, .bool false] ∧ Step [] [] w V ∧ b = w.heap.size) := by
  rw [hV, hb]
  have Q := blk3q w 139 139 139 #[.int .i64 x.kind, .string ⟨x.name.toArray⟩, .string ⟨x.other.toArray⟩, .string ⟨x.word.toArray⟩, .string ⟨x.salt.toArray⟩, .int .i64 x.bytes, .int .i64 x.keys, .string ⟨x.gf.toArray⟩, .string ⟨x.gt.toArray⟩, .bool x.gr, .bool x.gw] #[.int .i64 0, .string ⟨#[]⟩, .string ⟨#[]⟩, .string ⟨#[]⟩, .string ⟨#[]⟩, .int .i64 0, .int .i64 0, .string ⟨#[]⟩, .string ⟨#[]⟩, .bool false, .bool false] #[.int .i64 x.kind, .string ⟨x.name.toArray⟩, .string ⟨#[]⟩, .string ⟨#[]⟩, .string ⟨#[]⟩, .int .i64 0, .int .i64 0, .string ⟨#[]⟩, .string ⟨#[]⟩, .bool false, .bool false]
  exact ⟨Q.1, Q.2.1, Q.2.2, (((Step.refl [] w).alloc _).alloc _).alloc _, rfl⟩
 rw [← hV, ← hb]
 clear hV hb
 have cc := (H1.out.1).cell
 have c0 := cc 0
 have c1 := cc 1
 have c2 := cc 2
 have c3 := cc 3
 have c4 := cc 4
 have c5 := cc 5
 have c6 := cc 6
 have c7 := cc 7
 have c8 := cc 8
 have c9 := cc 9
 have c10 := cc 10
 clear cc
 simp only [List.getElem?_toArray, List.getElem?_cons_zero, List.getElem?_cons_succ] at c0 c1 c2 c3 c4 c5 c6 c7 c8 c9 c10
 have cl := (H1.out.1).lt
 go_upto_region 15 with fail
 have oc := (H1.out.2.2.1).cell
 have o0 := oc 0
 have o1 := oc 1
 have o2 := oc 2
 have o3 := oc 3
 have o4 := oc 4
 have o5 := oc 5
 have o6 := oc 6
 have o7 := oc 7
 have o8 := oc 8
 have o9 := oc 9
 have o10 := oc 10
 clear oc
 simp only [List.getElem?_toArray, List.getElem?_cons_zero, List.getElem?_cons_succ] at o0 o1 o2 o3 o4 o5 o6 o7 o8 o9 o10
 have ol := (H1.out.2.2.1).lt
 have ofz := (H1.out.2.2.1).frozen
 have of0 := ofz 0
 have of1 := ofz 1
 have of2 := ofz 2
 have of3 := ofz 3
 have of4 := ofz 4
 have of5 := ofz 5
 have of6 := ofz 6
 have of7 := ofz 7
 have of8 := ofz 8
 have of9 := ofz 9
 have of10 := ofz 10
 clear ofz
 go_upto_region 18 with fail
 obtain ⟨W, hW⟩ : ∃ W, W = ((((V.setCell ⟨b + 1 + 1, 7, none⟩ (.string ⟨x.gf.toArray⟩)).setCell ⟨b + 1 + 1, 8, none⟩ (.string ⟨x.gt.toArray⟩)).setCell ⟨b + 1 + 1, 9, none⟩ (.bool x.gr)).setCell ⟨b + 1 + 1, 10, none⟩ (.bool x.gw)) := ⟨_, rfl⟩
 have ss0 : Step [b + 1 + 1] [b + 1 + 1] V W := by
  rw [hW]
  iterate 4 refine Step.setCell ?_ (.inl (by simp)) _
  exact Step.refl _ _
 have N : Hid (Blk W (b + 1 + 1) 139 #[.int .i64 x.kind, .string ⟨x.name.toArray⟩, .string ⟨#[]⟩, .string ⟨#[]⟩, .string ⟨#[]⟩, .int .i64 0, .int .i64 0, .string ⟨x.gf.toArray⟩, .string ⟨x.gt.toArray⟩, .bool x.gr, .bool x.gw] ∧ Blk W (b + 1) 139 #[.int .i64 0, .string ⟨#[]⟩, .string ⟨#[]⟩, .string ⟨#[]⟩, .string ⟨#[]⟩, .int .i64 0, .int .i64 0, .string ⟨#[]⟩, .string ⟨#[]⟩, .bool false, .bool false] ∧ Step [] [] w W) := ⟨by rw [hW]; have hq := ((((H1.out.2.2.1.set 7 (.string ⟨x.gf.toArray⟩)).set 8 (.string ⟨x.gt.toArray⟩)).set 9 (.bool x.gr)).set 10 (.bool x.gw)); simpa using hq, H1.out.2.1.step ss0 (by simp), H1.out.2.2.2.1.out1' ss0 (by have := H1.out.2.2.2.2; simp; omega)⟩
 rw [← hW]
 clear hW ss0
 clear o0 o1 o2 o3 o4 o5 o6 o7 o8 o9 o10 ol of0 of1 of2 of3 of4 of5 of6 of7 of8 of9 of10
 clear c0 c1 c2 c3 c4 c5 c6 c7 c8 c9 c10 cl
 have nc := (N.out.1).cell
 have n0 := nc 0
 have n1 := nc 1
 have n2 := nc 2
 have n3 := nc 3
 have n4 := nc 4
 have n5 := nc 5
 have n6 := nc 6
 have n7 := nc 7
 have n8 := nc 8
 have n9 := nc 9
 have n10 := nc 10
 clear nc
 simp only [List.getElem?_toArray, List.getElem?_cons_zero, List.getElem?_cons_succ] at n0 n1 n2 n3 n4 n5 n6 n7 n8 n9 n10
 have nl := (N.out.1).lt
 have zc := (N.out.2.1).cell
 have z0 := zc 0
 have z1 := zc 1
 have z2 := zc 2
 have z3 := zc 3
 have z4 := zc 4
 have z5 := zc 5
 have z6 := zc 6
 have z7 := zc 7
 have z8 := zc 8
 have z9 := zc 9
 have z10 := zc 10
 clear zc
 simp only [List.getElem?_toArray, List.getElem?_cons_zero, List.getElem?_cons_succ] at z0 z1 z2 z3 z4 z5 z6 z7 z8 z9 z10
 have zl := (N.out.2.1).lt
 have zfz := (N.out.2.1).frozen
 have zf0 := zfz 0
 have zf1 := zfz 1
 have zf2 := zfz 2
 have zf3 := zfz 3
 have zf4 := zfz 4
 have zf5 := zfz 5
 have zf6 := zfz 6
 have zf7 := zfz 7
 have zf8 := zfz 8
 have zf9 := zfz 9
 have zf10 := zfz 10
 clear zfz
 go_wp2_with fail
 change bodyPost _ _ _ _ _ (putL W (b + 1) 0 [.int .i64 x.kind, .string ⟨x.name.toArray⟩, .string ⟨#[]⟩, .string ⟨#[]⟩, .string ⟨#[]⟩, .int .i64 0, .int .i64 0, .string ⟨x.gf.toArray⟩, .string ⟨x.gt.toArray⟩, .bool x.gr, .bool x.gw])
 have Q := N.out.2.1.put0 [.int .i64 x.kind, .string ⟨x.name.toArray⟩, .string ⟨#[]⟩, .string ⟨#[]⟩, .string ⟨#[]⟩, .int .i64 0, .int .i64 0, .string ⟨x.gf.toArray⟩, .string ⟨x.gt.toArray⟩, .bool x.gr, .bool x.gw] rfl
 have ss := step_putL (b + 1) [.int .i64 x.kind, .string ⟨x.name.toArray⟩, .string ⟨#[]⟩, .string ⟨#[]⟩, .string ⟨#[]⟩, .int .i64 0, .int .i64 0, .string ⟨x.gf.toArray⟩, .string ⟨x.gt.toArray⟩, .bool x.gr, .bool x.gw] 0 W
 obtain ⟨U, hU⟩ : ∃ U, U = putL W (b + 1) 0 [.int .i64 x.kind, .string ⟨x.name.toArray⟩, .string ⟨#[]⟩, .string ⟨#[]⟩, .string ⟨#[]⟩, .int .i64 0, .int .i64 0, .string ⟨x.gf.toArray⟩, .string ⟨x.gt.toArray⟩, .bool x.gr, .bool x.gw] := ⟨_, rfl⟩
 rw [← hU] at Q ss ⊢
 clear hU
 clear z0 z1 z2 z3 z4 z5 z6 z7 z8 z9 z10 zl zf0 zf1 zf2 zf3 zf4 zf5 zf6 zf7 zf8 zf9 zf10
 clear n0 n1 n2 n3 n4 n5 n6 n7 n8 n9 n10 nl
 have pc := (Q).cell
 have p0 := pc 0
 have p1 := pc 1
 have p2 := pc 2
 have p3 := pc 3
 have p4 := pc 4
 have p5 := pc 5
 have p6 := pc 6
 have p7 := pc 7
 have p8 := pc 8
 have p9 := pc 9
 have p10 := pc 10
 clear pc
 simp only [List.getElem?_toArray, List.getElem?_cons_zero, List.getElem?_cons_succ] at p0 p1 p2 p3 p4 p5 p6 p7 p8 p9 p10
 have pl := (Q).lt
 have so := N.out.2.2.out1' ss (by have := H1.out.2.2.2.2; simp; omega)
 refine bodyPost_ret (v := .agg #[.int .i64 x.kind, .string ⟨x.name.toArray⟩, .string ⟨#[]⟩, .string ⟨#[]⟩, .string ⟨#[]⟩, .int .i64 0, .int .i64 0, .string ⟨x.gf.toArray⟩, .string ⟨x.gt.toArray⟩, .bool x.gr, .bool x.gw]) ?_ rfl ⟨by rw [HC.out], so⟩
 simp [results, Try.results57, go_sem, p0, p1, p2, p3, p4, p5, p6, p7, p8, p9, p10]

set_option maxHeartbeats 4000000 in
theorem only12_any (x : Cm) (w : World) (hk : x.kind = 12) : Calls Try.prog 57 #[adV x] w fun e w' => e = .returned (adV (cleanC x)) ∧ Step [] [] w w' := by
 have HK := Lib.hid hk
 have k4 : (x.kind == 4) = false := by simp [hk]
 have k5 : (x.kind == 5) = false := by simp [hk]
 have k6 : (x.kind == 6) = false := by simp [hk]
 have k7 : (x.kind == 7) = false := by simp [hk]
 have k9 : (x.kind == 9) = false := by simp [hk]
 have k13 : (x.kind == 13) = false := by simp [hk]
 have k14 : (x.kind == 14) = false := by simp [hk]
 have k11 : (x.kind == 11) = false := by simp [hk]
 have k12 : (x.kind == 12) = true := by simp [hk]
 have HC := Lib.hid (show adV (cleanC x) = .agg #[.int .i64 x.kind, .string ⟨x.name.toArray⟩, .string ⟨#[]⟩, .string ⟨#[]⟩, .string ⟨#[]⟩, .int .i64 0, .int .i64 0, .string ⟨x.gf.toArray⟩, .string ⟨x.gt.toArray⟩, .bool false, .bool false] by simp [cleanC, onlyC, isK, hasN, hasO, hasW, hasS, hasQ, hasP, hasG, hk])
 clear hk
 go_enter Try.func57, Try.ntmps57
 go_upto_region 2 with fail
 obtain ⟨b, hb⟩ : ∃ b, b = w.heap.size := ⟨_, rfl⟩
 obtain ⟨V, hV⟩ : ∃ V, V = (((w.alloc (.cells #[.int .i64 x.kind, .string ⟨x.name.toArray⟩, .string ⟨x.other.toArray⟩, .string ⟨x.word.toArray⟩, .string ⟨x.salt.toArray⟩, .int .i64 x.bytes, .int .i64 x.keys, .string ⟨x.gf.toArray⟩, .string ⟨x.gt.toArray⟩, .bool x.gr, .bool x.gw] 139)).alloc (.cells #[.int .i64 0, .string ⟨#[]⟩, .string ⟨#[]⟩, .string ⟨#[]⟩, .string ⟨#[]⟩, .int .i64 0, .int .i64 0, .string ⟨#[]⟩, .string ⟨#[]⟩, .bool false, .bool false] 139)).alloc (.cells #[.int .i64 x.kind, .string ⟨x.name.toArray⟩, .string ⟨#[]⟩, .string ⟨#[]⟩, .string ⟨#[]⟩, .int .i64 0, .int .i64 0, .string ⟨#[]⟩, .string ⟨#[]⟩, .bool false, .bool false] 139)) := ⟨_, rfl⟩
 have H1 : Hid (Blk V b 139 #[.int .i64 x.kind, .string ⟨x.name.toArray⟩, .string ⟨x.other.toArray⟩, .string ⟨x.word.toArray⟩, .string ⟨x.salt.toArray⟩, .int .i64 x.bytes, .int .i64 x.keys, .string ⟨x.gf.toArray⟩, .string ⟨x.gt.toArray⟩, .bool x.gr, .bool x.gw] ∧ Blk V (b + 1) 139 #[.int .i64 0, .string ⟨#[]⟩, .string ⟨#[]⟩, .string ⟨#[]⟩, .string ⟨#[]⟩, .int .i64 0, .int .i64 0, .string ⟨#[]⟩, .string ⟨#[]⟩, .bool false, .bool false] ∧ Blk V (b + 1 + 1) 139 #[.int .i64 x.kind, .string ⟨x.name.toArray⟩, .string ⟨#[]⟩, .string ⟨#[]⟩, .string ⟨#[]⟩, .int .i64 0, .int .i64 0, .string ⟨#[]⟩, .string ⟨#[]⟩, .bool false, .bool false] ∧ Step [] [] w V ∧ b = w.heap.size) := by
  rw [hV, hb]
  have Q := blk3q w 139 139 139 #[.int .i64 x.kind, .string ⟨x.name.toArray⟩, .string ⟨x.other.toArray⟩, .string ⟨x.word.toArray⟩, .string ⟨x.salt.toArray⟩, .int .i64 x.bytes, .int .i64 x.keys, .string ⟨x.gf.toArray⟩, .string ⟨x.gt.toArray⟩, .bool x.gr, .bool x.gw] #[.int .i64 0, .string ⟨#[]⟩, .string ⟨#[]⟩, .string ⟨#[]⟩, .string ⟨#[]⟩, .int .i64 0, .int .i64 0, .string ⟨#[]⟩, .string ⟨#[]⟩, .bool false, .bool false] #[.int .i64 x.kind, .string ⟨x.name.toArray⟩, .string ⟨#[]⟩, .string ⟨#[]⟩, .string ⟨#[]⟩, .int .i64 0, .int .i64 0, .string ⟨#[]⟩, .string ⟨#[]⟩, .bool false, .bool false]
  exact ⟨Q.1, Q.2.1, Q.2.2, (((Step.refl [] w).alloc _).alloc _).alloc _, rfl⟩
 rw [← hV, ← hb]
 clear hV hb
 have cc := (H1.out.1).cell
 have c0 := cc 0
 have c1 := cc 1
 have c2 := cc 2
 have c3 := cc 3
 have c4 := cc 4
 have c5 := cc 5
 have c6 := cc 6
 have c7 := cc 7
 have c8 := cc 8
 have c9 := cc 9
 have c10 := cc 10
 clear cc
 simp only [List.getElem?_toArray, List.getElem?_cons_zero, List.getElem?_cons_succ] at c0 c1 c2 c3 c4 c5 c6 c7 c8 c9 c10
 have cl := (H1.out.1).lt
 go_upto_region 17 with fail
 have oc := (H1.out.2.2.1).cell
 have o0 := oc 0
 have o1 := oc 1
 have o2 := oc 2
 have o3 := oc 3
 have o4 := oc 4
 have o5 := oc 5
 have o6 := oc 6
 have o7 := oc 7
 have o8 := oc 8
 have o9 := oc 9
 have o10 := oc 10
 clear oc
 simp only [List.getElem?_toArray, List.getElem?_cons_zero, List.getElem?_cons_succ] at o0 o1 o2 o3 o4 o5 o6 o7 o8 o9 o10
 have ol := (H1.out.2.2.1).lt
 have ofz := (H1.out.2.2.1).frozen
 have of0 := ofz 0
 have of1 := ofz 1
 have of2 := ofz 2
 have of3 := ofz 3
 have of4 := ofz 4
 have of5 := ofz 5
 have of6 := ofz 6
 have of7 := ofz 7
 have of8 := ofz 8
 have of9 := ofz 9
 have of10 := ofz 10
 clear ofz
 go_upto_region 18 with fail
 obtain ⟨W, hW⟩ : ∃ W, W = ((V.setCell ⟨b + 1 + 1, 7, none⟩ (.string ⟨x.gf.toArray⟩)).setCell ⟨b + 1 + 1, 8, none⟩ (.string ⟨x.gt.toArray⟩)) := ⟨_, rfl⟩
 have ss0 : Step [b + 1 + 1] [b + 1 + 1] V W := by
  rw [hW]
  iterate 2 refine Step.setCell ?_ (.inl (by simp)) _
  exact Step.refl _ _
 have N : Hid (Blk W (b + 1 + 1) 139 #[.int .i64 x.kind, .string ⟨x.name.toArray⟩, .string ⟨#[]⟩, .string ⟨#[]⟩, .string ⟨#[]⟩, .int .i64 0, .int .i64 0, .string ⟨x.gf.toArray⟩, .string ⟨x.gt.toArray⟩, .bool false, .bool false] ∧ Blk W (b + 1) 139 #[.int .i64 0, .string ⟨#[]⟩, .string ⟨#[]⟩, .string ⟨#[]⟩, .string ⟨#[]⟩, .int .i64 0, .int .i64 0, .string ⟨#[]⟩, .string ⟨#[]⟩, .bool false, .bool false] ∧ Step [] [] w W) := ⟨by rw [hW]; have hq := ((H1.out.2.2.1.set 7 (.string ⟨x.gf.toArray⟩)).set 8 (.string ⟨x.gt.toArray⟩)); simpa using hq, H1.out.2.1.step ss0 (by simp), H1.out.2.2.2.1.out1' ss0 (by have := H1.out.2.2.2.2; simp; omega)⟩
 rw [← hW]
 clear hW ss0
 clear o0 o1 o2 o3 o4 o5 o6 o7 o8 o9 o10 ol of0 of1 of2 of3 of4 of5 of6 of7 of8 of9 of10
 clear c0 c1 c2 c3 c4 c5 c6 c7 c8 c9 c10 cl
 have nc := (N.out.1).cell
 have n0 := nc 0
 have n1 := nc 1
 have n2 := nc 2
 have n3 := nc 3
 have n4 := nc 4
 have n5 := nc 5
 have n6 := nc 6
 have n7 := nc 7
 have n8 := nc 8
 have n9 := nc 9
 have n10 := nc 10
 clear nc
 simp only [List.getElem?_toArray, List.getElem?_cons_zero, List.getElem?_cons_succ] at n0 n1 n2 n3 n4 n5 n6 n7 n8 n9 n10
 have nl := (N.out.1).lt
 have zc := (N.out.2.1).cell
 have z0 := zc 0
 have z1 := zc 1
 have z2 := zc 2
 have z3 := zc 3
 have z4 := zc 4
 have z5 := zc 5
 have z6 := zc 6
 have z7 := zc 7
 have z8 := zc 8
 have z9 := zc 9
 have z10 := zc 10
 clear zc
 simp only [List.getElem?_toArray, List.getElem?_cons_zero, List.getElem?_cons_succ] at z0 z1 z2 z3 z4 z5 z6 z7 z8 z9 z10
 have zl := (N.out.2.1).lt
 have zfz := (N.out.2.1).frozen
 have zf0 := zfz 0
 have zf1 := zfz 1
 have zf2 := zfz 2
 have zf3 := zfz 3
 have zf4 := zfz 4
 have zf5 := zfz 5
 have zf6 := zfz 6
 have zf7 := zfz 7
 have zf8 := zfz 8
 have zf9 := zfz 9
 have zf10 := zfz 10
 clear zfz
 go_wp2_with fail
 change bodyPost _ _ _ _ _ (putL W (b + 1) 0 [.int .i64 x.kind, .string ⟨x.name.toArray⟩, .string ⟨#[]⟩, .string ⟨#[]⟩, .string ⟨#[]⟩, .int .i64 0, .int .i64 0, .string ⟨x.gf.toArray⟩, .string ⟨x.gt.toArray⟩, .bool false, .bool false])
 have Q := N.out.2.1.put0 [.int .i64 x.kind, .string ⟨x.name.toArray⟩, .string ⟨#[]⟩, .string ⟨#[]⟩, .string ⟨#[]⟩, .int .i64 0, .int .i64 0, .string ⟨x.gf.toArray⟩, .string ⟨x.gt.toArray⟩, .bool false, .bool false] rfl
 have ss := step_putL (b + 1) [.int .i64 x.kind, .string ⟨x.name.toArray⟩, .string ⟨#[]⟩, .string ⟨#[]⟩, .string ⟨#[]⟩, .int .i64 0, .int .i64 0, .string ⟨x.gf.toArray⟩, .string ⟨x.gt.toArray⟩, .bool false, .bool false] 0 W
 obtain ⟨U, hU⟩ : ∃ U, U = putL W (b + 1) 0 [.int .i64 x.kind, .string ⟨x.name.toArray⟩, .string ⟨#[]⟩, .string ⟨#[]⟩, .string ⟨#[]⟩, .int .i64 0, .int .i64 0, .string ⟨x.gf.toArray⟩, .string ⟨x.gt.toArray⟩, .bool false, .bool false] := ⟨_, rfl⟩
 rw [← hU] at Q ss ⊢
 clear hU
 clear z0 z1 z2 z3 z4 z5 z6 z7 z8 z9 z10 zl zf0 zf1 zf2 zf3 zf4 zf5 zf6 zf7 zf8 zf9 zf10
 clear n0 n1 n2 n3 n4 n5 n6 n7 n8 n9 n10 nl
 have pc := (Q).cell
 have p0 := pc 0
 have p1 := pc 1
 have p2 := pc 2
 have p3 := pc 3
 have p4 := pc 4
 have p5 := pc 5
 have p6 := pc 6
 have p7 := pc 7
 have p8 := pc 8
 have p9 := pc 9
 have p10 := pc 10
 clear pc
 simp only [List.getElem?_toArray, List.getElem?_cons_zero, List.getElem?_cons_succ] at p0 p1 p2 p3 p4 p5 p6 p7 p8 p9 p10
 have pl := (Q).lt
 have so := N.out.2.2.out1' ss (by have := H1.out.2.2.2.2; simp; omega)
 refine bodyPost_ret (v := .agg #[.int .i64 x.kind, .string ⟨x.name.toArray⟩, .string ⟨#[]⟩, .string ⟨#[]⟩, .string ⟨#[]⟩, .int .i64 0, .int .i64 0, .string ⟨x.gf.toArray⟩, .string ⟨x.gt.toArray⟩, .bool false, .bool false]) ?_ rfl ⟨by rw [HC.out], so⟩
 simp [results, Try.results57, go_sem, p0, p1, p2, p3, p4, p5, p6, p7, p8, p9, p10]

set_option maxHeartbeats 4000000 in
theorem only13_any (x : Cm) (w : World) (hk : x.kind = 13) : Calls Try.prog 57 #[adV x] w fun e w' => e = .returned (adV (cleanC x)) ∧ Step [] [] w w' := by
 have HK := Lib.hid hk
 have k4 : (x.kind == 4) = false := by simp [hk]
 have k5 : (x.kind == 5) = false := by simp [hk]
 have k6 : (x.kind == 6) = false := by simp [hk]
 have k7 : (x.kind == 7) = false := by simp [hk]
 have k9 : (x.kind == 9) = false := by simp [hk]
 have k13 : (x.kind == 13) = true := by simp [hk]
 have k14 : (x.kind == 14) = false := by simp [hk]
 have k11 : (x.kind == 11) = false := by simp [hk]
 have k12 : (x.kind == 12) = false := by simp [hk]
 have HC := Lib.hid (show adV (cleanC x) = .agg #[.int .i64 x.kind, .string ⟨x.name.toArray⟩, .string ⟨x.other.toArray⟩, .string ⟨#[]⟩, .string ⟨#[]⟩, .int .i64 0, .int .i64 0, .string ⟨#[]⟩, .string ⟨#[]⟩, .bool false, .bool false] by simp [cleanC, onlyC, isK, hasN, hasO, hasW, hasS, hasQ, hasP, hasG, hk])
 clear hk
 go_enter Try.func57, Try.ntmps57
 go_upto_region 2 with fail
 obtain ⟨b, hb⟩ : ∃ b, b = w.heap.size := ⟨_, rfl⟩
 obtain ⟨V, hV⟩ : ∃ V, V = (((w.alloc (.cells #[.int .i64 x.kind, .string ⟨x.name.toArray⟩, .string ⟨x.other.toArray⟩, .string ⟨x.word.toArray⟩, .string ⟨x.salt.toArray⟩, .int .i64 x.bytes, .int .i64 x.keys, .string ⟨x.gf.toArray⟩, .string ⟨x.gt.toArray⟩, .bool x.gr, .bool x.gw] 139)).alloc (.cells #[.int .i64 0, .string ⟨#[]⟩, .string ⟨#[]⟩, .string ⟨#[]⟩, .string ⟨#[]⟩, .int .i64 0, .int .i64 0, .string ⟨#[]⟩, .string ⟨#[]⟩, .bool false, .bool false] 139)).alloc (.cells #[.int .i64 x.kind, .string ⟨x.name.toArray⟩, .string ⟨#[]⟩, .string ⟨#[]⟩, .string ⟨#[]⟩, .int .i64 0, .int .i64 0, .string ⟨#[]⟩, .string ⟨#[]⟩, .bool false, .bool false] 139)) := ⟨_, rfl⟩
 have H1 : Hid (Blk V b 139 #[.int .i64 x.kind, .string ⟨x.name.toArray⟩, .string ⟨x.other.toArray⟩, .string ⟨x.word.toArray⟩, .string ⟨x.salt.toArray⟩, .int .i64 x.bytes, .int .i64 x.keys, .string ⟨x.gf.toArray⟩, .string ⟨x.gt.toArray⟩, .bool x.gr, .bool x.gw] ∧ Blk V (b + 1) 139 #[.int .i64 0, .string ⟨#[]⟩, .string ⟨#[]⟩, .string ⟨#[]⟩, .string ⟨#[]⟩, .int .i64 0, .int .i64 0, .string ⟨#[]⟩, .string ⟨#[]⟩, .bool false, .bool false] ∧ Blk V (b + 1 + 1) 139 #[.int .i64 x.kind, .string ⟨x.name.toArray⟩, .string ⟨#[]⟩, .string ⟨#[]⟩, .string ⟨#[]⟩, .int .i64 0, .int .i64 0, .string ⟨#[]⟩, .string ⟨#[]⟩, .bool false, .bool false] ∧ Step [] [] w V ∧ b = w.heap.size) := by
  rw [hV, hb]
  have Q := blk3q w 139 139 139 #[.int .i64 x.kind, .string ⟨x.name.toArray⟩, .string ⟨x.other.toArray⟩, .string ⟨x.word.toArray⟩, .string ⟨x.salt.toArray⟩, .int .i64 x.bytes, .int .i64 x.keys, .string ⟨x.gf.toArray⟩, .string ⟨x.gt.toArray⟩, .bool x.gr, .bool x.gw] #[.int .i64 0, .string ⟨#[]⟩, .string ⟨#[]⟩, .string ⟨#[]⟩, .string ⟨#[]⟩, .int .i64 0, .int .i64 0, .string ⟨#[]⟩, .string ⟨#[]⟩, .bool false, .bool false] #[.int .i64 x.kind, .string ⟨x.name.toArray⟩, .string ⟨#[]⟩, .string ⟨#[]⟩, .string ⟨#[]⟩, .int .i64 0, .int .i64 0, .string ⟨#[]⟩, .string ⟨#[]⟩, .bool false, .bool false]
  exact ⟨Q.1, Q.2.1, Q.2.2, (((Step.refl [] w).alloc _).alloc _).alloc _, rfl⟩
 rw [← hV, ← hb]
 clear hV hb
 have cc := (H1.out.1).cell
 have c0 := cc 0
 have c1 := cc 1
 have c2 := cc 2
 have c3 := cc 3
 have c4 := cc 4
 have c5 := cc 5
 have c6 := cc 6
 have c7 := cc 7
 have c8 := cc 8
 have c9 := cc 9
 have c10 := cc 10
 clear cc
 simp only [List.getElem?_toArray, List.getElem?_cons_zero, List.getElem?_cons_succ] at c0 c1 c2 c3 c4 c5 c6 c7 c8 c9 c10
 have cl := (H1.out.1).lt
 go_upto_region 13 with fail
 have oc := (H1.out.2.2.1).cell
 have o0 := oc 0
 have o1 := oc 1
 have o2 := oc 2
 have o3 := oc 3
 have o4 := oc 4
 have o5 := oc 5
 have o6 := oc 6
 have o7 := oc 7
 have o8 := oc 8
 have o9 := oc 9
 have o10 := oc 10
 clear oc
 simp only [List.getElem?_toArray, List.getElem?_cons_zero, List.getElem?_cons_succ] at o0 o1 o2 o3 o4 o5 o6 o7 o8 o9 o10
 have ol := (H1.out.2.2.1).lt
 have ofz := (H1.out.2.2.1).frozen
 have of0 := ofz 0
 have of1 := ofz 1
 have of2 := ofz 2
 have of3 := ofz 3
 have of4 := ofz 4
 have of5 := ofz 5
 have of6 := ofz 6
 have of7 := ofz 7
 have of8 := ofz 8
 have of9 := ofz 9
 have of10 := ofz 10
 clear ofz
 go_upto_region 18 with fail
 obtain ⟨W, hW⟩ : ∃ W, W = (V.setCell ⟨b + 1 + 1, 2, none⟩ (.string ⟨x.other.toArray⟩)) := ⟨_, rfl⟩
 have ss0 : Step [b + 1 + 1] [b + 1 + 1] V W := by
  rw [hW]
  iterate 1 refine Step.setCell ?_ (.inl (by simp)) _
  exact Step.refl _ _
 have N : Hid (Blk W (b + 1 + 1) 139 #[.int .i64 x.kind, .string ⟨x.name.toArray⟩, .string ⟨x.other.toArray⟩, .string ⟨#[]⟩, .string ⟨#[]⟩, .int .i64 0, .int .i64 0, .string ⟨#[]⟩, .string ⟨#[]⟩, .bool false, .bool false] ∧ Blk W (b + 1) 139 #[.int .i64 0, .string ⟨#[]⟩, .string ⟨#[]⟩, .string ⟨#[]⟩, .string ⟨#[]⟩, .int .i64 0, .int .i64 0, .string ⟨#[]⟩, .string ⟨#[]⟩, .bool false, .bool false] ∧ Step [] [] w W) := ⟨by rw [hW]; have hq := (H1.out.2.2.1.set 2 (.string ⟨x.other.toArray⟩)); simpa using hq, H1.out.2.1.step ss0 (by simp), H1.out.2.2.2.1.out1' ss0 (by have := H1.out.2.2.2.2; simp; omega)⟩
 rw [← hW]
 clear hW ss0
 clear o0 o1 o2 o3 o4 o5 o6 o7 o8 o9 o10 ol of0 of1 of2 of3 of4 of5 of6 of7 of8 of9 of10
 clear c0 c1 c2 c3 c4 c5 c6 c7 c8 c9 c10 cl
 have nc := (N.out.1).cell
 have n0 := nc 0
 have n1 := nc 1
 have n2 := nc 2
 have n3 := nc 3
 have n4 := nc 4
 have n5 := nc 5
 have n6 := nc 6
 have n7 := nc 7
 have n8 := nc 8
 have n9 := nc 9
 have n10 := nc 10
 clear nc
 simp only [List.getElem?_toArray, List.getElem?_cons_zero, List.getElem?_cons_succ] at n0 n1 n2 n3 n4 n5 n6 n7 n8 n9 n10
 have nl := (N.out.1).lt
 have zc := (N.out.2.1).cell
 have z0 := zc 0
 have z1 := zc 1
 have z2 := zc 2
 have z3 := zc 3
 have z4 := zc 4
 have z5 := zc 5
 have z6 := zc 6
 have z7 := zc 7
 have z8 := zc 8
 have z9 := zc 9
 have z10 := zc 10
 clear zc
 simp only [List.getElem?_toArray, List.getElem?_cons_zero, List.getElem?_cons_succ] at z0 z1 z2 z3 z4 z5 z6 z7 z8 z9 z10
 have zl := (N.out.2.1).lt
 have zfz := (N.out.2.1).frozen
 have zf0 := zfz 0
 have zf1 := zfz 1
 have zf2 := zfz 2
 have zf3 := zfz 3
 have zf4 := zfz 4
 have zf5 := zfz 5
 have zf6 := zfz 6
 have zf7 := zfz 7
 have zf8 := zfz 8
 have zf9 := zfz 9
 have zf10 := zfz 10
 clear zfz
 go_wp2_with fail
 change bodyPost _ _ _ _ _ (putL W (b + 1) 0 [.int .i64 x.kind, .string ⟨x.name.toArray⟩, .string ⟨x.other.toArray⟩, .string ⟨#[]⟩, .string ⟨#[]⟩, .int .i64 0, .int .i64 0, .string ⟨#[]⟩, .string ⟨#[]⟩, .bool false, .bool false])
 have Q := N.out.2.1.put0 [.int .i64 x.kind, .string ⟨x.name.toArray⟩, .string ⟨x.other.toArray⟩, .string ⟨#[]⟩, .string ⟨#[]⟩, .int .i64 0, .int .i64 0, .string ⟨#[]⟩, .string ⟨#[]⟩, .bool false, .bool false] rfl
 have ss := step_putL (b + 1) [.int .i64 x.kind, .string ⟨x.name.toArray⟩, .string ⟨x.other.toArray⟩, .string ⟨#[]⟩, .string ⟨#[]⟩, .int .i64 0, .int .i64 0, .string ⟨#[]⟩, .string ⟨#[]⟩, .bool false, .bool false] 0 W
 obtain ⟨U, hU⟩ : ∃ U, U = putL W (b + 1) 0 [.int .i64 x.kind, .string ⟨x.name.toArray⟩, .string ⟨x.other.toArray⟩, .string ⟨#[]⟩, .string ⟨#[]⟩, .int .i64 0, .int .i64 0, .string ⟨#[]⟩, .string ⟨#[]⟩, .bool false, .bool false] := ⟨_, rfl⟩
 rw [← hU] at Q ss ⊢
 clear hU
 clear z0 z1 z2 z3 z4 z5 z6 z7 z8 z9 z10 zl zf0 zf1 zf2 zf3 zf4 zf5 zf6 zf7 zf8 zf9 zf10
 clear n0 n1 n2 n3 n4 n5 n6 n7 n8 n9 n10 nl
 have pc := (Q).cell
 have p0 := pc 0
 have p1 := pc 1
 have p2 := pc 2
 have p3 := pc 3
 have p4 := pc 4
 have p5 := pc 5
 have p6 := pc 6
 have p7 := pc 7
 have p8 := pc 8
 have p9 := pc 9
 have p10 := pc 10
 clear pc
 simp only [List.getElem?_toArray, List.getElem?_cons_zero, List.getElem?_cons_succ] at p0 p1 p2 p3 p4 p5 p6 p7 p8 p9 p10
 have pl := (Q).lt
 have so := N.out.2.2.out1' ss (by have := H1.out.2.2.2.2; simp; omega)
 refine bodyPost_ret (v := .agg #[.int .i64 x.kind, .string ⟨x.name.toArray⟩, .string ⟨x.other.toArray⟩, .string ⟨#[]⟩, .string ⟨#[]⟩, .int .i64 0, .int .i64 0, .string ⟨#[]⟩, .string ⟨#[]⟩, .bool false, .bool false]) ?_ rfl ⟨by rw [HC.out], so⟩
 simp [results, Try.results57, go_sem, p0, p1, p2, p3, p4, p5, p6, p7, p8, p9, p10]

set_option maxHeartbeats 4000000 in
theorem only14_any (x : Cm) (w : World) (hk : x.kind = 14) : Calls Try.prog 57 #[adV x] w fun e w' => e = .returned (adV (cleanC x)) ∧ Step [] [] w w' := by
 have HK := Lib.hid hk
 have k4 : (x.kind == 4) = false := by simp [hk]
 have k5 : (x.kind == 5) = false := by simp [hk]
 have k6 : (x.kind == 6) = false := by simp [hk]
 have k7 : (x.kind == 7) = false := by simp [hk]
 have k9 : (x.kind == 9) = false := by simp [hk]
 have k13 : (x.kind == 13) = false := by simp [hk]
 have k14 : (x.kind == 14) = true := by simp [hk]
 have k11 : (x.kind == 11) = false := by simp [hk]
 have k12 : (x.kind == 12) = false := by simp [hk]
 have HC := Lib.hid (show adV (cleanC x) = .agg #[.int .i64 x.kind, .string ⟨x.name.toArray⟩, .string ⟨x.other.toArray⟩, .string ⟨#[]⟩, .string ⟨#[]⟩, .int .i64 0, .int .i64 0, .string ⟨#[]⟩, .string ⟨#[]⟩, .bool false, .bool false] by simp [cleanC, onlyC, isK, hasN, hasO, hasW, hasS, hasQ, hasP, hasG, hk])
 clear hk
 go_enter Try.func57, Try.ntmps57
 go_upto_region 2 with fail
 obtain ⟨b, hb⟩ : ∃ b, b = w.heap.size := ⟨_, rfl⟩
 obtain ⟨V, hV⟩ : ∃ V, V = (((w.alloc (.cells #[.int .i64 x.kind, .string ⟨x.name.toArray⟩, .string ⟨x.other.toArray⟩, .string ⟨x.word.toArray⟩, .string ⟨x.salt.toArray⟩, .int .i64 x.bytes, .int .i64 x.keys, .string ⟨x.gf.toArray⟩, .string ⟨x.gt.toArray⟩, .bool x.gr, .bool x.gw] 139)).alloc (.cells #[.int .i64 0, .string ⟨#[]⟩, .string ⟨#[]⟩, .string ⟨#[]⟩, .string ⟨#[]⟩, .int .i64 0, .int .i64 0, .string ⟨#[]⟩, .string ⟨#[]⟩, .bool false, .bool false] 139)).alloc (.cells #[.int .i64 x.kind, .string ⟨x.name.toArray⟩, .string ⟨#[]⟩, .string ⟨#[]⟩, .string ⟨#[]⟩, .int .i64 0, .int .i64 0, .string ⟨#[]⟩, .string ⟨#[]⟩, .bool false, .bool false] 139)) := ⟨_, rfl⟩
 have H1 : Hid (Blk V b 139 #[.int .i64 x.kind, .string ⟨x.name.toArray⟩, .string ⟨x.other.toArray⟩, .string ⟨x.word.toArray⟩, .string ⟨x.salt.toArray⟩, .int .i64 x.bytes, .int .i64 x.keys, .string ⟨x.gf.toArray⟩, .string ⟨x.gt.toArray⟩, .bool x.gr, .bool x.gw] ∧ Blk V (b + 1) 139 #[.int .i64 0, .string ⟨#[]⟩, .string ⟨#[]⟩, .string ⟨#[]⟩, .string ⟨#[]⟩, .int .i64 0, .int .i64 0, .string ⟨#[]⟩, .string ⟨#[]⟩, .bool false, .bool false] ∧ Blk V (b + 1 + 1) 139 #[.int .i64 x.kind, .string ⟨x.name.toArray⟩, .string ⟨#[]⟩, .string ⟨#[]⟩, .string ⟨#[]⟩, .int .i64 0, .int .i64 0, .string ⟨#[]⟩, .string ⟨#[]⟩, .bool false, .bool false] ∧ Step [] [] w V ∧ b = w.heap.size) := by
  rw [hV, hb]
  have Q := blk3q w 139 139 139 #[.int .i64 x.kind, .string ⟨x.name.toArray⟩, .string ⟨x.other.toArray⟩, .string ⟨x.word.toArray⟩, .string ⟨x.salt.toArray⟩, .int .i64 x.bytes, .int .i64 x.keys, .string ⟨x.gf.toArray⟩, .string ⟨x.gt.toArray⟩, .bool x.gr, .bool x.gw] #[.int .i64 0, .string ⟨#[]⟩, .string ⟨#[]⟩, .string ⟨#[]⟩, .string ⟨#[]⟩, .int .i64 0, .int .i64 0, .string ⟨#[]⟩, .string ⟨#[]⟩, .bool false, .bool false] #[.int .i64 x.kind, .string ⟨x.name.toArray⟩, .string ⟨#[]⟩, .string ⟨#[]⟩, .string ⟨#[]⟩, .int .i64 0, .int .i64 0, .string ⟨#[]⟩, .string ⟨#[]⟩, .bool false, .bool false]
  exact ⟨Q.1, Q.2.1, Q.2.2, (((Step.refl [] w).alloc _).alloc _).alloc _, rfl⟩
 rw [← hV, ← hb]
 clear hV hb
 have cc := (H1.out.1).cell
 have c0 := cc 0
 have c1 := cc 1
 have c2 := cc 2
 have c3 := cc 3
 have c4 := cc 4
 have c5 := cc 5
 have c6 := cc 6
 have c7 := cc 7
 have c8 := cc 8
 have c9 := cc 9
 have c10 := cc 10
 clear cc
 simp only [List.getElem?_toArray, List.getElem?_cons_zero, List.getElem?_cons_succ] at c0 c1 c2 c3 c4 c5 c6 c7 c8 c9 c10
 have cl := (H1.out.1).lt
 go_upto_region 13 with fail
 have oc := (H1.out.2.2.1).cell
 have o0 := oc 0
 have o1 := oc 1
 have o2 := oc 2
 have o3 := oc 3
 have o4 := oc 4
 have o5 := oc 5
 have o6 := oc 6
 have o7 := oc 7
 have o8 := oc 8
 have o9 := oc 9
 have o10 := oc 10
 clear oc
 simp only [List.getElem?_toArray, List.getElem?_cons_zero, List.getElem?_cons_succ] at o0 o1 o2 o3 o4 o5 o6 o7 o8 o9 o10
 have ol := (H1.out.2.2.1).lt
 have ofz := (H1.out.2.2.1).frozen
 have of0 := ofz 0
 have of1 := ofz 1
 have of2 := ofz 2
 have of3 := ofz 3
 have of4 := ofz 4
 have of5 := ofz 5
 have of6 := ofz 6
 have of7 := ofz 7
 have of8 := ofz 8
 have of9 := ofz 9
 have of10 := ofz 10
 clear ofz
 go_upto_region 18 with fail
 obtain ⟨W, hW⟩ : ∃ W, W = (V.setCell ⟨b + 1 + 1, 2, none⟩ (.string ⟨x.other.toArray⟩)) := ⟨_, rfl⟩
 have ss0 : Step [b + 1 + 1] [b + 1 + 1] V W := by
  rw [hW]
  iterate 1 refine Step.setCell ?_ (.inl (by simp)) _
  exact Step.refl _ _
 have N : Hid (Blk W (b + 1 + 1) 139 #[.int .i64 x.kind, .string ⟨x.name.toArray⟩, .string ⟨x.other.toArray⟩, .string ⟨#[]⟩, .string ⟨#[]⟩, .int .i64 0, .int .i64 0, .string ⟨#[]⟩, .string ⟨#[]⟩, .bool false, .bool false] ∧ Blk W (b + 1) 139 #[.int .i64 0, .string ⟨#[]⟩, .string ⟨#[]⟩, .string ⟨#[]⟩, .string ⟨#[]⟩, .int .i64 0, .int .i64 0, .string ⟨#[]⟩, .string ⟨#[]⟩, .bool false, .bool false] ∧ Step [] [] w W) := ⟨by rw [hW]; have hq := (H1.out.2.2.1.set 2 (.string ⟨x.other.toArray⟩)); simpa using hq, H1.out.2.1.step ss0 (by simp), H1.out.2.2.2.1.out1' ss0 (by have := H1.out.2.2.2.2; simp; omega)⟩
 rw [← hW]
 clear hW ss0
 clear o0 o1 o2 o3 o4 o5 o6 o7 o8 o9 o10 ol of0 of1 of2 of3 of4 of5 of6 of7 of8 of9 of10
 clear c0 c1 c2 c3 c4 c5 c6 c7 c8 c9 c10 cl
 have nc := (N.out.1).cell
 have n0 := nc 0
 have n1 := nc 1
 have n2 := nc 2
 have n3 := nc 3
 have n4 := nc 4
 have n5 := nc 5
 have n6 := nc 6
 have n7 := nc 7
 have n8 := nc 8
 have n9 := nc 9
 have n10 := nc 10
 clear nc
 simp only [List.getElem?_toArray, List.getElem?_cons_zero, List.getElem?_cons_succ] at n0 n1 n2 n3 n4 n5 n6 n7 n8 n9 n10
 have nl := (N.out.1).lt
 have zc := (N.out.2.1).cell
 have z0 := zc 0
 have z1 := zc 1
 have z2 := zc 2
 have z3 := zc 3
 have z4 := zc 4
 have z5 := zc 5
 have z6 := zc 6
 have z7 := zc 7
 have z8 := zc 8
 have z9 := zc 9
 have z10 := zc 10
 clear zc
 simp only [List.getElem?_toArray, List.getElem?_cons_zero, List.getElem?_cons_succ] at z0 z1 z2 z3 z4 z5 z6 z7 z8 z9 z10
 have zl := (N.out.2.1).lt
 have zfz := (N.out.2.1).frozen
 have zf0 := zfz 0
 have zf1 := zfz 1
 have zf2 := zfz 2
 have zf3 := zfz 3
 have zf4 := zfz 4
 have zf5 := zfz 5
 have zf6 := zfz 6
 have zf7 := zfz 7
 have zf8 := zfz 8
 have zf9 := zfz 9
 have zf10 := zfz 10
 clear zfz
 go_wp2_with fail
 change bodyPost _ _ _ _ _ (putL W (b + 1) 0 [.int .i64 x.kind, .string ⟨x.name.toArray⟩, .string ⟨x.other.toArray⟩, .string ⟨#[]⟩, .string ⟨#[]⟩, .int .i64 0, .int .i64 0, .string ⟨#[]⟩, .string ⟨#[]⟩, .bool false, .bool false])
 have Q := N.out.2.1.put0 [.int .i64 x.kind, .string ⟨x.name.toArray⟩, .string ⟨x.other.toArray⟩, .string ⟨#[]⟩, .string ⟨#[]⟩, .int .i64 0, .int .i64 0, .string ⟨#[]⟩, .string ⟨#[]⟩, .bool false, .bool false] rfl
 have ss := step_putL (b + 1) [.int .i64 x.kind, .string ⟨x.name.toArray⟩, .string ⟨x.other.toArray⟩, .string ⟨#[]⟩, .string ⟨#[]⟩, .int .i64 0, .int .i64 0, .string ⟨#[]⟩, .string ⟨#[]⟩, .bool false, .bool false] 0 W
 obtain ⟨U, hU⟩ : ∃ U, U = putL W (b + 1) 0 [.int .i64 x.kind, .string ⟨x.name.toArray⟩, .string ⟨x.other.toArray⟩, .string ⟨#[]⟩, .string ⟨#[]⟩, .int .i64 0, .int .i64 0, .string ⟨#[]⟩, .string ⟨#[]⟩, .bool false, .bool false] := ⟨_, rfl⟩
 rw [← hU] at Q ss ⊢
 clear hU
 clear z0 z1 z2 z3 z4 z5 z6 z7 z8 z9 z10 zl zf0 zf1 zf2 zf3 zf4 zf5 zf6 zf7 zf8 zf9 zf10
 clear n0 n1 n2 n3 n4 n5 n6 n7 n8 n9 n10 nl
 have pc := (Q).cell
 have p0 := pc 0
 have p1 := pc 1
 have p2 := pc 2
 have p3 := pc 3
 have p4 := pc 4
 have p5 := pc 5
 have p6 := pc 6
 have p7 := pc 7
 have p8 := pc 8
 have p9 := pc 9
 have p10 := pc 10
 clear pc
 simp only [List.getElem?_toArray, List.getElem?_cons_zero, List.getElem?_cons_succ] at p0 p1 p2 p3 p4 p5 p6 p7 p8 p9 p10
 have pl := (Q).lt
 have so := N.out.2.2.out1' ss (by have := H1.out.2.2.2.2; simp; omega)
 refine bodyPost_ret (v := .agg #[.int .i64 x.kind, .string ⟨x.name.toArray⟩, .string ⟨x.other.toArray⟩, .string ⟨#[]⟩, .string ⟨#[]⟩, .int .i64 0, .int .i64 0, .string ⟨#[]⟩, .string ⟨#[]⟩, .bool false, .bool false]) ?_ rfl ⟨by rw [HC.out], so⟩
 simp [results, Try.results57, go_sem, p0, p1, p2, p3, p4, p5, p6, p7, p8, p9, p10]

theorem only_any (x : Cm) (w : World) (hk : 4 ≤ x.kind ∧ x.kind ≤ 14) : Calls Try.prog 57 #[adV x] w fun e w' => e = .returned (adV (cleanC x)) ∧ Step [] [] w w' := by
 rcases adm_cases hk with h | h | h | h | h | h | h | h | h | h | h
 ·exact only4_any x w h
 ·exact only5_any x w h
 ·exact only6_any x w h
 ·exact only7_any x w h
 ·exact only8_any x w h
 ·exact only9_any x w h
 ·exact only10_any x w h
 ·exact only11_any x w h
 ·exact only12_any x w h
 ·exact only13_any x w h
 ·exact only14_any x w h
end Go.Proofs.Ytjfaplmojpldhaa
