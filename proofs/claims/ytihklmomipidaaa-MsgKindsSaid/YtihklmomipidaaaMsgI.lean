/-
  The reference's Clean: a flat form without the fields that its kind hasn't. Condition: at most 2^40 entries.
-/
import Derived.Test.YtihklmomipidaaaMsgH
namespace Go.Proofs.Ytihklmomipidaaa
open Go.RowKit
set_option linter.unusedSimpArgs false
set_option linter.unusedVariables false
set_option maxRecDepth 100000

def CleanPost (x : Rw) (w : World) (e : Ending) (w' : World) : Prop := ∃ a cap, e = .returned (.tuple #[rwV (cleanL x) (.slice a (cleanL x).es.length cap), .bool (isKind x.kind)]) ∧ Rd w' 3 a (cleanL x).es.length (entcs (cleanL x).es) ∧ Step [] [] w w'
theorem blk3w (w : World) (t0 t1 t2 : TypeId) (c0 c1 c2 : Array Value) : Blk (((w.alloc (.cells c0 t0)).alloc (.cells c1 t1)).alloc (.cells c2 t2)) w.heap.size t0 c0 ∧ Blk (((w.alloc (.cells c0 t0)).alloc (.cells c1 t1)).alloc (.cells c2 t2)) (w.heap.size + 1) t1 c1 ∧ Blk (((w.alloc (.cells c0 t0)).alloc (.cells c1 t1)).alloc (.cells c2 t2)) (w.heap.size + 1 + 1) t2 c2 := by
  have s1 : ∀ o, (w.alloc o).heap.size = w.heap.size + 1 := fun o => by simp
  have s2 : ∀ o o', ((w.alloc o).alloc o').heap.size = w.heap.size + 1 + 1 := fun o o' => by simp
  refine ⟨((Blk.new w t0 c0).alloc _).alloc _, ?_, ?_⟩
  · have := (Blk.new (w.alloc (.cells c0 t0)) t1 c1).alloc (.cells c2 t2)
    rwa [s1] at this
  · have := Blk.new ((w.alloc (.cells c0 t0)).alloc (.cells c1 t1)) t2 c2
    rwa [s2] at this

set_option maxHeartbeats 4000000 in
theorem clean1_any (x : Rw) (a : Option Addr) (cap : Nat) (w : World) (hk : x.kind = 1) (hr : Rd w 3 a x.es.length (entcs x.es)) : Calls Try.prog 10 #[rwV x (.slice a x.es.length cap)] w (CleanPost x w) := by
  have HC0 := Lib.hid hk
  have hik : isKind x.kind = true := by rw [hk]; rfl
  have HIK := Lib.hid hik
  have k1 : (x.kind == 1) = true := by rw [hk]; rfl
  have k2 : (x.kind == 2) = false := by rw [hk]; rfl
  have k3 : (x.kind == 3) = false := by rw [hk]; rfl
  have k4 : (x.kind == 4) = false := by rw [hk]; rfl
  have k5 : (x.kind == 5) = false := by rw [hk]; rfl
  have HR := Lib.hid hr
  clear hk hik hr
  go_enter Try.func10, Try.ntmps10
  go_upto_region 2 with fail
  obtain ⟨b, hb⟩ : ∃ b, b = w.heap.size := ⟨_, rfl⟩
  obtain ⟨V, hV⟩ : ∃ V, V = (((w.alloc (.cells #[.int .i64 x.kind, .int .i64 x.src, .int .i64 x.term, .int .i64 x.index, .int .i64 x.last, .int .i64 x.commit, .int .i64 x.round, .bool x.yes, .slice a x.es.length cap, .string ⟨x.data.toArray⟩] 24)).alloc (.cells #[.int .i64 0, .int .i64 0, .int .i64 0, .int .i64 0, .int .i64 0, .int .i64 0, .int .i64 0, .bool false, .slice none 0 0, .string ⟨#[]⟩] 24)).alloc (.cells #[.int .i64 x.kind, .int .i64 x.src, .int .i64 x.term, .int .i64 0, .int .i64 0, .int .i64 0, .int .i64 0, .bool false, .slice none 0 0, .string ⟨#[]⟩] 24)) := ⟨_, rfl⟩
  have H1 : Hid (Blk V b 24 (rwc x (.slice a x.es.length cap)).toArray ∧ Blk V (b + 1) 24 #[.int .i64 0, .int .i64 0, .int .i64 0, .int .i64 0, .int .i64 0, .int .i64 0, .int .i64 0, .bool false, .slice none 0 0, .string ⟨#[]⟩] ∧ Blk V (b + 1 + 1) 24 (rwc ⟨x.kind, x.src, x.term, 0, 0, 0, 0, false, [], []⟩ (.slice none 0 0)).toArray ∧ Rd V 3 a x.es.length (entcs x.es) ∧ Step [] [] w V ∧ b = w.heap.size) := by
    rw [hV, hb]
    have B := blk3w w 24 24 24 (rwc x (.slice a x.es.length cap)).toArray #[.int .i64 0, .int .i64 0, .int .i64 0, .int .i64 0, .int .i64 0, .int .i64 0, .int .i64 0, .bool false, .slice none 0 0, .string ⟨#[]⟩] (rwc ⟨x.kind, x.src, x.term, 0, 0, 0, 0, false, [], []⟩ (.slice none 0 0)).toArray
    exact ⟨B.1, B.2.1, B.2.2, ((HR.out.alloc _).alloc _).alloc _, (((Step.refl [] w).alloc _).alloc _).alloc _, rfl⟩
  rw [← hV, ← hb]
  clear hV hb
  have ra := H1.out.1.rw
  have rl := H1.out.1.lt
  go_upto_region 5 with fail
  clear ra rl
  have H2 : Hid (Blk V (b + 1 + 1) 24 (rwc ⟨x.kind, x.src, x.term, 0, 0, 0, 0, false, [], []⟩ (.slice none 0 0)).toArray ∧ Blk V (b + 1) 24 #[.int .i64 0, .int .i64 0, .int .i64 0, .int .i64 0, .int .i64 0, .int .i64 0, .int .i64 0, .bool false, .slice none 0 0, .string ⟨#[]⟩] ∧ Step [] [] w V) := ⟨H1.out.2.2.1, H1.out.2.1, H1.out.2.2.2.2.1⟩
  have oc := H1.out.2.2.1.rw
  have ol := H1.out.2.2.1.lt
  have of_ := H1.out.2.2.1.frozen
  have of0 := of_ 0
  have of1 := of_ 1
  have of2 := of_ 2
  have of3 := of_ 3
  have of4 := of_ 4
  have of5 := of_ 5
  have of6 := of_ 6
  have of7 := of_ 7
  have of8 := of_ 8
  have of9 := of_ 9
  clear of_
  refine wp_region_held_drew (S := fun V => Hid (Blk V b 24 (rwc x (.slice a x.es.length cap)).toArray)) (by kernel_rfl) (Lib.hid H1.out.1.drew) (fun hHeld => ?_)
  refine wpAnyH_take (i := 0) (v := ?_) rfl (by kernel_rfl) (by kernel_rfl) (by kernel_rfl) (fun _ _ _ h => h) (Or.inl ⟨by rfl, ?_⟩) hHeld ?_
  rotate_left
  · intro w hSw
    have hSw1 := hSw
    clear hSw
    try dsimp only at hSw1
    go_simp
    try (with_reducible rfl)
  try simp only [Act.put, List.setIfInBounds_toArray, List.set_cons_zero, List.set_cons_succ, List.getElem_toArray, List.getElem_cons_zero, List.getElem_cons_succ]
  refine wpAnyH_take (i := 1) (v := ?_) rfl (by kernel_rfl) (by kernel_rfl) (by kernel_rfl) (fun _ _ _ h => h) (Or.inl ⟨by rfl, ?_⟩) hHeld ?_
  rotate_left
  · intro w hSw
    have hSw1 := hSw
    clear hSw
    have hb0 := hSw1.out.rw
    have hb1 := hSw1.out.lt
    go_simp
    try (with_reducible rfl)
  try simp only [Act.put, List.setIfInBounds_toArray, List.set_cons_zero, List.set_cons_succ, List.getElem_toArray, List.getElem_cons_zero, List.getElem_cons_succ]
  refine wpAnyH_take (i := 2) (v := ?_) rfl (by kernel_rfl) (by kernel_rfl) (by kernel_rfl) (fun _ _ _ h => h) (Or.inl ⟨by rfl, ?_⟩) hHeld ?_
  rotate_left
  · intro w hSw
    have hSw1 := hSw
    clear hSw
    try dsimp only at hSw1
    go_simp
    try (with_reducible rfl)
  try simp only [Act.put, List.setIfInBounds_toArray, List.set_cons_zero, List.set_cons_succ, List.getElem_toArray, List.getElem_cons_zero, List.getElem_cons_succ]
  refine wpAnyH_take (i := 3) (v := ?_) rfl (by kernel_rfl) (by kernel_rfl) (by kernel_rfl) (fun _ _ _ h => h) (Or.inl ⟨by rfl, ?_⟩) hHeld ?_
  rotate_left
  · intro w hSw
    have hSw1 := hSw
    clear hSw
    have hb0 := hSw1.out.rw
    have hb1 := hSw1.out.lt
    go_simp
    try (with_reducible rfl)
  try simp only [Act.put, List.setIfInBounds_toArray, List.set_cons_zero, List.set_cons_succ, List.getElem_toArray, List.getElem_cons_zero, List.getElem_cons_succ]
  refine wpAnyH_take (i := 4) (v := ?_) rfl (by kernel_rfl) (by kernel_rfl) (by kernel_rfl) (fun _ _ _ h => h) (Or.inl ⟨by rfl, ?_⟩) hHeld ?_
  rotate_left
  · intro w hSw
    have hSw1 := hSw
    clear hSw
    try dsimp only at hSw1
    go_simp
    try (with_reducible rfl)
  try simp only [Act.put, List.setIfInBounds_toArray, List.set_cons_zero, List.set_cons_succ, List.getElem_toArray, List.getElem_cons_zero, List.getElem_cons_succ]
  refine wpAnyH_ready (rs := [5]) (by kernel_rfl) (by simp) ?_
  refine AllReadyH.cons rfl (fun K hK => ?_) AllReadyH.nil
  go_simp
  skip
  go_wp2_with fail
  refine hK.out _ _ (Lib.hid (Blk.far (p := ⟨b + 1 + 1, 3, none⟩) hHeld.out (by simp; omega) _)) (fun hHeld2 => ?_)
  clear hK K hHeld
  try simp only [Act.put, List.setIfInBounds_toArray, List.set_cons_zero, List.set_cons_succ, List.getElem_toArray, List.getElem_cons_zero, List.getElem_cons_succ]
  refine wpAnyH_take (i := 6) (v := ?_) rfl (by kernel_rfl) (by kernel_rfl) (by kernel_rfl) (fun _ _ _ h => h) (Or.inl ⟨by rfl, ?_⟩) hHeld2 ?_
  rotate_left
  · intro w hSw
    have hSw1 := hSw
    clear hSw
    try dsimp only at hSw1
    go_simp
    try (with_reducible rfl)
  try simp only [Act.put, List.setIfInBounds_toArray, List.set_cons_zero, List.set_cons_succ, List.getElem_toArray, List.getElem_cons_zero, List.getElem_cons_succ]
  refine wpAnyH_ready (rs := [7]) (by kernel_rfl) (by simp) ?_
  refine AllReadyH.cons rfl (fun K hK => ?_) AllReadyH.nil
  go_simp
  skip
  go_wp2_with fail
  refine hK.out _ _ (Lib.hid (Blk.far (p := ⟨b + 1 + 1, 4, none⟩) hHeld2.out (by simp; omega) _)) (fun hHeld3 => ?_)
  clear hK K hHeld2
  try simp only [Act.put, List.setIfInBounds_toArray, List.set_cons_zero, List.set_cons_succ, List.getElem_toArray, List.getElem_cons_zero, List.getElem_cons_succ]
  refine wpAnyH_done (by kernel_rfl) ?_ _
  go_upto_region 15 with fail
  obtain ⟨W, hW⟩ : ∃ W, W = ((V.setCell ⟨b + 1 + 1, 3, none⟩ (.int .i64 x.index)).setCell ⟨b + 1 + 1, 4, none⟩ (.int .i64 x.last)).drew := ⟨_, rfl⟩
  have ss0 : Step [b + 1 + 1] [b + 1 + 1] V W := by rw [hW]; exact (((Step.refl [b + 1 + 1] V).setCell (.inl (by simp)) _).setCell (.inl (by simp)) _).drew
  have N : Hid (Blk W (b + 1 + 1) 24 (rwc ⟨x.kind, x.src, x.term, x.index, x.last, 0, 0, false, [], []⟩ (.slice none 0 0)).toArray ∧ Blk W (b + 1) 24 #[.int .i64 0, .int .i64 0, .int .i64 0, .int .i64 0, .int .i64 0, .int .i64 0, .int .i64 0, .bool false, .slice none 0 0, .string ⟨#[]⟩] ∧ Step [] [] w W) := ⟨by rw [hW]; have hq := ((H2.out.1.set 3 (.int .i64 x.index)).set 4 (.int .i64 x.last)).drew; simpa [rwc] using hq, H2.out.2.1.step ss0 (by simp), H2.out.2.2.out1 ss0 (by have := H1.out.2.2.2.2.2; omega)⟩
  rw [← hW]
  clear hW ss0 oc ol of0 of1 of2 of3 of4 of5 of6 of7 of8 of9
  have oc := N.out.1.rw
  have ol := N.out.1.lt
  have zl := N.out.2.1.lt
  have zc := fun j => N.out.2.1.cell j
  have zf := fun j => N.out.2.1.frozen j
  have zc0 := zc 0
  have zc1 := zc 1
  have zc2 := zc 2
  have zc3 := zc 3
  have zc4 := zc 4
  have zc5 := zc 5
  have zc6 := zc 6
  have zc7 := zc 7
  have zc8 := zc 8
  have zc9 := zc 9
  have zf0 := zf 0
  have zf1 := zf 1
  have zf2 := zf 2
  have zf3 := zf 3
  have zf4 := zf 4
  have zf5 := zf 5
  have zf6 := zf 6
  have zf7 := zf 7
  have zf8 := zf 8
  have zf9 := zf 9
  clear zc zf
  simp only [List.getElem?_toArray, List.getElem?_cons_zero, List.getElem?_cons_succ] at zc0 zc1 zc2 zc3 zc4 zc5 zc6 zc7 zc8 zc9
  go_wp2_with fail
  change bodyPost _ _ _ _ _ (putRw W (b + 1) ⟨x.kind, x.src, x.term, x.index, x.last, 0, 0, false, [], []⟩ (.slice none 0 0))
  have P := (N.out.2.1.putRw ⟨x.kind, x.src, x.term, x.index, x.last, 0, 0, false, [], []⟩ (.slice none 0 0)).rw
  have ss := step_putRw W (b + 1) ⟨x.kind, x.src, x.term, x.index, x.last, 0, 0, false, [], []⟩ (.slice none 0 0)
  obtain ⟨U, hU⟩ : ∃ U, U = putRw W (b + 1) ⟨x.kind, x.src, x.term, x.index, x.last, 0, 0, false, [], []⟩ (.slice none 0 0) := ⟨_, rfl⟩
  rw [← hU] at P ss ⊢
  clear hU
  have hbw := H1.out.2.2.2.2.2
  have hcl : cleanL x = ⟨x.kind, x.src, x.term, x.index, x.last, 0, 0, false, [], []⟩ := by simp [cleanL, HC0.out]
  refine bodyPost_ret (v := .tuple #[rwV ⟨x.kind, x.src, x.term, x.index, x.last, 0, 0, false, [], []⟩ (.slice none 0 0), .bool true]) ?_ rfl ⟨none, 0, ?_, ?_, N.out.2.2.out1 ss (by omega)⟩
  · simp [results, Try.results10, go_sem, P]
  · rw [hcl, HIK.out]; rfl
  · rw [hcl]; exact (Row.none _ 3).rd

set_option maxHeartbeats 4000000 in
theorem clean4_any (x : Rw) (a : Option Addr) (cap : Nat) (w : World) (hk : x.kind = 4) (hr : Rd w 3 a x.es.length (entcs x.es)) : Calls Try.prog 10 #[rwV x (.slice a x.es.length cap)] w (CleanPost x w) := by
  have HC0 := Lib.hid hk
  have hik : isKind x.kind = true := by rw [hk]; rfl
  have HIK := Lib.hid hik
  have k1 : (x.kind == 1) = false := by rw [hk]; rfl
  have k2 : (x.kind == 2) = false := by rw [hk]; rfl
  have k3 : (x.kind == 3) = false := by rw [hk]; rfl
  have k4 : (x.kind == 4) = true := by rw [hk]; rfl
  have k5 : (x.kind == 5) = false := by rw [hk]; rfl
  have HR := Lib.hid hr
  clear hk hik hr
  go_enter Try.func10, Try.ntmps10
  go_upto_region 2 with fail
  obtain ⟨b, hb⟩ : ∃ b, b = w.heap.size := ⟨_, rfl⟩
  obtain ⟨V, hV⟩ : ∃ V, V = (((w.alloc (.cells #[.int .i64 x.kind, .int .i64 x.src, .int .i64 x.term, .int .i64 x.index, .int .i64 x.last, .int .i64 x.commit, .int .i64 x.round, .bool x.yes, .slice a x.es.length cap, .string ⟨x.data.toArray⟩] 24)).alloc (.cells #[.int .i64 0, .int .i64 0, .int .i64 0, .int .i64 0, .int .i64 0, .int .i64 0, .int .i64 0, .bool false, .slice none 0 0, .string ⟨#[]⟩] 24)).alloc (.cells #[.int .i64 x.kind, .int .i64 x.src, .int .i64 x.term, .int .i64 0, .int .i64 0, .int .i64 0, .int .i64 0, .bool false, .slice none 0 0, .string ⟨#[]⟩] 24)) := ⟨_, rfl⟩
  have H1 : Hid (Blk V b 24 (rwc x (.slice a x.es.length cap)).toArray ∧ Blk V (b + 1) 24 #[.int .i64 0, .int .i64 0, .int .i64 0, .int .i64 0, .int .i64 0, .int .i64 0, .int .i64 0, .bool false, .slice none 0 0, .string ⟨#[]⟩] ∧ Blk V (b + 1 + 1) 24 (rwc ⟨x.kind, x.src, x.term, 0, 0, 0, 0, false, [], []⟩ (.slice none 0 0)).toArray ∧ Rd V 3 a x.es.length (entcs x.es) ∧ Step [] [] w V ∧ b = w.heap.size) := by
    rw [hV, hb]
    have B := blk3w w 24 24 24 (rwc x (.slice a x.es.length cap)).toArray #[.int .i64 0, .int .i64 0, .int .i64 0, .int .i64 0, .int .i64 0, .int .i64 0, .int .i64 0, .bool false, .slice none 0 0, .string ⟨#[]⟩] (rwc ⟨x.kind, x.src, x.term, 0, 0, 0, 0, false, [], []⟩ (.slice none 0 0)).toArray
    exact ⟨B.1, B.2.1, B.2.2, ((HR.out.alloc _).alloc _).alloc _, (((Step.refl [] w).alloc _).alloc _).alloc _, rfl⟩
  rw [← hV, ← hb]
  clear hV hb
  have ra := H1.out.1.rw
  have rl := H1.out.1.lt
  go_upto_region 12 with fail
  clear ra rl
  have H2 : Hid (Blk V (b + 1 + 1) 24 (rwc ⟨x.kind, x.src, x.term, 0, 0, 0, 0, false, [], []⟩ (.slice none 0 0)).toArray ∧ Blk V (b + 1) 24 #[.int .i64 0, .int .i64 0, .int .i64 0, .int .i64 0, .int .i64 0, .int .i64 0, .int .i64 0, .bool false, .slice none 0 0, .string ⟨#[]⟩] ∧ Step [] [] w V) := ⟨H1.out.2.2.1, H1.out.2.1, H1.out.2.2.2.2.1⟩
  have oc := H1.out.2.2.1.rw
  have ol := H1.out.2.2.1.lt
  have of_ := H1.out.2.2.1.frozen
  have of0 := of_ 0
  have of1 := of_ 1
  have of2 := of_ 2
  have of3 := of_ 3
  have of4 := of_ 4
  have of5 := of_ 5
  have of6 := of_ 6
  have of7 := of_ 7
  have of8 := of_ 8
  have of9 := of_ 9
  clear of_
  refine wp_region_held_drew (S := fun V => Hid (Blk V b 24 (rwc x (.slice a x.es.length cap)).toArray)) (by kernel_rfl) (Lib.hid H1.out.1.drew) (fun hHeld => ?_)
  refine wpAnyH_take (i := 0) (v := ?_) rfl (by kernel_rfl) (by kernel_rfl) (by kernel_rfl) (fun _ _ _ h => h) (Or.inl ⟨by rfl, ?_⟩) hHeld ?_
  rotate_left
  · intro w hSw
    have hSw1 := hSw
    clear hSw
    try dsimp only at hSw1
    go_simp
    try (with_reducible rfl)
  try simp only [Act.put, List.setIfInBounds_toArray, List.set_cons_zero, List.set_cons_succ, List.getElem_toArray, List.getElem_cons_zero, List.getElem_cons_succ]
  refine wpAnyH_take (i := 1) (v := ?_) rfl (by kernel_rfl) (by kernel_rfl) (by kernel_rfl) (fun _ _ _ h => h) (Or.inl ⟨by rfl, ?_⟩) hHeld ?_
  rotate_left
  · intro w hSw
    have hSw1 := hSw
    clear hSw
    have hb0 := hSw1.out.rw
    have hb1 := hSw1.out.lt
    go_simp
    try (with_reducible rfl)
  try simp only [Act.put, List.setIfInBounds_toArray, List.set_cons_zero, List.set_cons_succ, List.getElem_toArray, List.getElem_cons_zero, List.getElem_cons_succ]
  refine wpAnyH_take (i := 2) (v := ?_) rfl (by kernel_rfl) (by kernel_rfl) (by kernel_rfl) (fun _ _ _ h => h) (Or.inl ⟨by rfl, ?_⟩) hHeld ?_
  rotate_left
  · intro w hSw
    have hSw1 := hSw
    clear hSw
    try dsimp only at hSw1
    go_simp
    try (with_reducible rfl)
  try simp only [Act.put, List.setIfInBounds_toArray, List.set_cons_zero, List.set_cons_succ, List.getElem_toArray, List.getElem_cons_zero, List.getElem_cons_succ]
  refine wpAnyH_take (i := 3) (v := ?_) rfl (by kernel_rfl) (by kernel_rfl) (by kernel_rfl) (fun _ _ _ h => h) (Or.inl ⟨by rfl, ?_⟩) hHeld ?_
  rotate_left
  · intro w hSw
    have hSw1 := hSw
    clear hSw
    have hb0 := hSw1.out.rw
    have hb1 := hSw1.out.lt
    go_simp
    try (with_reducible rfl)
  try simp only [Act.put, List.setIfInBounds_toArray, List.set_cons_zero, List.set_cons_succ, List.getElem_toArray, List.getElem_cons_zero, List.getElem_cons_succ]
  refine wpAnyH_take (i := 4) (v := ?_) rfl (by kernel_rfl) (by kernel_rfl) (by kernel_rfl) (fun _ _ _ h => h) (Or.inl ⟨by rfl, ?_⟩) hHeld ?_
  rotate_left
  · intro w hSw
    have hSw1 := hSw
    clear hSw
    try dsimp only at hSw1
    go_simp
    try (with_reducible rfl)
  try simp only [Act.put, List.setIfInBounds_toArray, List.set_cons_zero, List.set_cons_succ, List.getElem_toArray, List.getElem_cons_zero, List.getElem_cons_succ]
  refine wpAnyH_take (i := 5) (v := ?_) rfl (by kernel_rfl) (by kernel_rfl) (by kernel_rfl) (fun _ _ _ h => h) (Or.inl ⟨by rfl, ?_⟩) hHeld ?_
  rotate_left
  · intro w hSw
    have hSw1 := hSw
    clear hSw
    have hb0 := hSw1.out.rw
    have hb1 := hSw1.out.lt
    go_simp
    try (with_reducible rfl)
  try simp only [Act.put, List.setIfInBounds_toArray, List.set_cons_zero, List.set_cons_succ, List.getElem_toArray, List.getElem_cons_zero, List.getElem_cons_succ]
  refine wpAnyH_take (i := 6) (v := ?_) rfl (by kernel_rfl) (by kernel_rfl) (by kernel_rfl) (fun _ _ _ h => h) (Or.inl ⟨by rfl, ?_⟩) hHeld ?_
  rotate_left
  · intro w hSw
    have hSw1 := hSw
    clear hSw
    try dsimp only at hSw1
    go_simp
    try (with_reducible rfl)
  try simp only [Act.put, List.setIfInBounds_toArray, List.set_cons_zero, List.set_cons_succ, List.getElem_toArray, List.getElem_cons_zero, List.getElem_cons_succ]
  refine wpAnyH_ready (rs := [7]) (by kernel_rfl) (by simp) ?_
  refine AllReadyH.cons rfl (fun K hK => ?_) AllReadyH.nil
  go_simp
  skip
  go_wp2_with fail
  refine hK.out _ _ (Lib.hid (Blk.far (p := ⟨b + 1 + 1, 3, none⟩) hHeld.out (by simp; omega) _)) (fun hHeld2 => ?_)
  clear hK K hHeld
  try simp only [Act.put, List.setIfInBounds_toArray, List.set_cons_zero, List.set_cons_succ, List.getElem_toArray, List.getElem_cons_zero, List.getElem_cons_succ]
  refine wpAnyH_take (i := 8) (v := ?_) rfl (by kernel_rfl) (by kernel_rfl) (by kernel_rfl) (fun _ _ _ h => h) (Or.inl ⟨by rfl, ?_⟩) hHeld2 ?_
  rotate_left
  · intro w hSw
    have hSw1 := hSw
    clear hSw
    try dsimp only at hSw1
    go_simp
    try (with_reducible rfl)
  try simp only [Act.put, List.setIfInBounds_toArray, List.set_cons_zero, List.set_cons_succ, List.getElem_toArray, List.getElem_cons_zero, List.getElem_cons_succ]
  refine wpAnyH_ready (rs := [9]) (by kernel_rfl) (by simp) ?_
  refine AllReadyH.cons rfl (fun K hK => ?_) AllReadyH.nil
  go_simp
  skip
  go_wp2_with fail
  refine hK.out _ _ (Lib.hid (Blk.far (p := ⟨b + 1 + 1, 6, none⟩) hHeld2.out (by simp; omega) _)) (fun hHeld3 => ?_)
  clear hK K hHeld2
  try simp only [Act.put, List.setIfInBounds_toArray, List.set_cons_zero, List.set_cons_succ, List.getElem_toArray, List.getElem_cons_zero, List.getElem_cons_succ]
  refine wpAnyH_take (i := 10) (v := ?_) rfl (by kernel_rfl) (by kernel_rfl) (by kernel_rfl) (fun _ _ _ h => h) (Or.inl ⟨by rfl, ?_⟩) hHeld3 ?_
  rotate_left
  · intro w hSw
    have hSw1 := hSw
    clear hSw
    try dsimp only at hSw1
    go_simp
    try (with_reducible rfl)
  try simp only [Act.put, List.setIfInBounds_toArray, List.set_cons_zero, List.set_cons_succ, List.getElem_toArray, List.getElem_cons_zero, List.getElem_cons_succ]
  refine wpAnyH_ready (rs := [11]) (by kernel_rfl) (by simp) ?_
  refine AllReadyH.cons rfl (fun K hK => ?_) AllReadyH.nil
  go_simp
  skip
  go_wp2_with fail
  refine hK.out _ _ (Lib.hid (Blk.far (p := ⟨b + 1 + 1, 7, none⟩) hHeld3.out (by simp; omega) _)) (fun hHeld4 => ?_)
  clear hK K hHeld3
  try simp only [Act.put, List.setIfInBounds_toArray, List.set_cons_zero, List.set_cons_succ, List.getElem_toArray, List.getElem_cons_zero, List.getElem_cons_succ]
  refine wpAnyH_done (by kernel_rfl) ?_ _
  go_upto_region 15 with fail
  obtain ⟨W, hW⟩ : ∃ W, W = (((V.setCell ⟨b + 1 + 1, 3, none⟩ (.int .i64 x.index)).setCell ⟨b + 1 + 1, 6, none⟩ (.int .i64 x.round)).setCell ⟨b + 1 + 1, 7, none⟩ (.bool x.yes)).drew := ⟨_, rfl⟩
  have ss0 : Step [b + 1 + 1] [b + 1 + 1] V W := by rw [hW]; exact ((((Step.refl [b + 1 + 1] V).setCell (.inl (by simp)) _).setCell (.inl (by simp)) _).setCell (.inl (by simp)) _).drew
  have N : Hid (Blk W (b + 1 + 1) 24 (rwc ⟨x.kind, x.src, x.term, x.index, 0, 0, x.round, x.yes, [], []⟩ (.slice none 0 0)).toArray ∧ Blk W (b + 1) 24 #[.int .i64 0, .int .i64 0, .int .i64 0, .int .i64 0, .int .i64 0, .int .i64 0, .int .i64 0, .bool false, .slice none 0 0, .string ⟨#[]⟩] ∧ Step [] [] w W) := ⟨by rw [hW]; have hq := (((H2.out.1.set 3 (.int .i64 x.index)).set 6 (.int .i64 x.round)).set 7 (.bool x.yes)).drew; simpa [rwc] using hq, H2.out.2.1.step ss0 (by simp), H2.out.2.2.out1 ss0 (by have := H1.out.2.2.2.2.2; omega)⟩
  rw [← hW]
  clear hW ss0 oc ol of0 of1 of2 of3 of4 of5 of6 of7 of8 of9
  have oc := N.out.1.rw
  have ol := N.out.1.lt
  have zl := N.out.2.1.lt
  have zc := fun j => N.out.2.1.cell j
  have zf := fun j => N.out.2.1.frozen j
  have zc0 := zc 0
  have zc1 := zc 1
  have zc2 := zc 2
  have zc3 := zc 3
  have zc4 := zc 4
  have zc5 := zc 5
  have zc6 := zc 6
  have zc7 := zc 7
  have zc8 := zc 8
  have zc9 := zc 9
  have zf0 := zf 0
  have zf1 := zf 1
  have zf2 := zf 2
  have zf3 := zf 3
  have zf4 := zf 4
  have zf5 := zf 5
  have zf6 := zf 6
  have zf7 := zf 7
  have zf8 := zf 8
  have zf9 := zf 9
  clear zc zf
  simp only [List.getElem?_toArray, List.getElem?_cons_zero, List.getElem?_cons_succ] at zc0 zc1 zc2 zc3 zc4 zc5 zc6 zc7 zc8 zc9
  go_wp2_with fail
  change bodyPost _ _ _ _ _ (putRw W (b + 1) ⟨x.kind, x.src, x.term, x.index, 0, 0, x.round, x.yes, [], []⟩ (.slice none 0 0))
  have P := (N.out.2.1.putRw ⟨x.kind, x.src, x.term, x.index, 0, 0, x.round, x.yes, [], []⟩ (.slice none 0 0)).rw
  have ss := step_putRw W (b + 1) ⟨x.kind, x.src, x.term, x.index, 0, 0, x.round, x.yes, [], []⟩ (.slice none 0 0)
  obtain ⟨U, hU⟩ : ∃ U, U = putRw W (b + 1) ⟨x.kind, x.src, x.term, x.index, 0, 0, x.round, x.yes, [], []⟩ (.slice none 0 0) := ⟨_, rfl⟩
  rw [← hU] at P ss ⊢
  clear hU
  have hbw := H1.out.2.2.2.2.2
  have hcl : cleanL x = ⟨x.kind, x.src, x.term, x.index, 0, 0, x.round, x.yes, [], []⟩ := by simp [cleanL, HC0.out]
  refine bodyPost_ret (v := .tuple #[rwV ⟨x.kind, x.src, x.term, x.index, 0, 0, x.round, x.yes, [], []⟩ (.slice none 0 0), .bool true]) ?_ rfl ⟨none, 0, ?_, ?_, N.out.2.2.out1 ss (by omega)⟩
  · simp [results, Try.results10, go_sem, P]
  · rw [hcl, HIK.out]; rfl
  · rw [hcl]; exact (Row.none _ 3).rd

set_option maxHeartbeats 4000000 in
theorem clean5_any (x : Rw) (a : Option Addr) (cap : Nat) (w : World) (hk : x.kind = 5) (hr : Rd w 3 a x.es.length (entcs x.es)) : Calls Try.prog 10 #[rwV x (.slice a x.es.length cap)] w (CleanPost x w) := by
  have HC0 := Lib.hid hk
  have hik : isKind x.kind = true := by rw [hk]; rfl
  have HIK := Lib.hid hik
  have k1 : (x.kind == 1) = false := by rw [hk]; rfl
  have k2 : (x.kind == 2) = false := by rw [hk]; rfl
  have k3 : (x.kind == 3) = false := by rw [hk]; rfl
  have k4 : (x.kind == 4) = false := by rw [hk]; rfl
  have k5 : (x.kind == 5) = true := by rw [hk]; rfl
  have HR := Lib.hid hr
  clear hk hik hr
  go_enter Try.func10, Try.ntmps10
  go_upto_region 2 with fail
  obtain ⟨b, hb⟩ : ∃ b, b = w.heap.size := ⟨_, rfl⟩
  obtain ⟨V, hV⟩ : ∃ V, V = (((w.alloc (.cells #[.int .i64 x.kind, .int .i64 x.src, .int .i64 x.term, .int .i64 x.index, .int .i64 x.last, .int .i64 x.commit, .int .i64 x.round, .bool x.yes, .slice a x.es.length cap, .string ⟨x.data.toArray⟩] 24)).alloc (.cells #[.int .i64 0, .int .i64 0, .int .i64 0, .int .i64 0, .int .i64 0, .int .i64 0, .int .i64 0, .bool false, .slice none 0 0, .string ⟨#[]⟩] 24)).alloc (.cells #[.int .i64 x.kind, .int .i64 x.src, .int .i64 x.term, .int .i64 0, .int .i64 0, .int .i64 0, .int .i64 0, .bool false, .slice none 0 0, .string ⟨#[]⟩] 24)) := ⟨_, rfl⟩
  have H1 : Hid (Blk V b 24 (rwc x (.slice a x.es.length cap)).toArray ∧ Blk V (b + 1) 24 #[.int .i64 0, .int .i64 0, .int .i64 0, .int .i64 0, .int .i64 0, .int .i64 0, .int .i64 0, .bool false, .slice none 0 0, .string ⟨#[]⟩] ∧ Blk V (b + 1 + 1) 24 (rwc ⟨x.kind, x.src, x.term, 0, 0, 0, 0, false, [], []⟩ (.slice none 0 0)).toArray ∧ Rd V 3 a x.es.length (entcs x.es) ∧ Step [] [] w V ∧ b = w.heap.size) := by
    rw [hV, hb]
    have B := blk3w w 24 24 24 (rwc x (.slice a x.es.length cap)).toArray #[.int .i64 0, .int .i64 0, .int .i64 0, .int .i64 0, .int .i64 0, .int .i64 0, .int .i64 0, .bool false, .slice none 0 0, .string ⟨#[]⟩] (rwc ⟨x.kind, x.src, x.term, 0, 0, 0, 0, false, [], []⟩ (.slice none 0 0)).toArray
    exact ⟨B.1, B.2.1, B.2.2, ((HR.out.alloc _).alloc _).alloc _, (((Step.refl [] w).alloc _).alloc _).alloc _, rfl⟩
  rw [← hV, ← hb]
  clear hV hb
  have ra := H1.out.1.rw
  have rl := H1.out.1.lt
  go_upto_region 14 with fail
  clear ra rl
  have H2 : Hid (Blk V (b + 1 + 1) 24 (rwc ⟨x.kind, x.src, x.term, 0, 0, 0, 0, false, [], []⟩ (.slice none 0 0)).toArray ∧ Blk V (b + 1) 24 #[.int .i64 0, .int .i64 0, .int .i64 0, .int .i64 0, .int .i64 0, .int .i64 0, .int .i64 0, .bool false, .slice none 0 0, .string ⟨#[]⟩] ∧ Step [] [] w V) := ⟨H1.out.2.2.1, H1.out.2.1, H1.out.2.2.2.2.1⟩
  have oc := H1.out.2.2.1.rw
  have ol := H1.out.2.2.1.lt
  have of_ := H1.out.2.2.1.frozen
  have of0 := of_ 0
  have of1 := of_ 1
  have of2 := of_ 2
  have of3 := of_ 3
  have of4 := of_ 4
  have of5 := of_ 5
  have of6 := of_ 6
  have of7 := of_ 7
  have of8 := of_ 8
  have of9 := of_ 9
  clear of_
  refine wp_region_held_drew (S := fun V => Hid (Blk V b 24 (rwc x (.slice a x.es.length cap)).toArray)) (by kernel_rfl) (Lib.hid H1.out.1.drew) (fun hHeld => ?_)
  refine wpAnyH_take (i := 0) (v := ?_) rfl (by kernel_rfl) (by kernel_rfl) (by kernel_rfl) (fun _ _ _ h => h) (Or.inl ⟨by rfl, ?_⟩) hHeld ?_
  rotate_left
  · intro w hSw
    have hSw1 := hSw
    clear hSw
    try dsimp only at hSw1
    go_simp
    try (with_reducible rfl)
  try simp only [Act.put, List.setIfInBounds_toArray, List.set_cons_zero, List.set_cons_succ, List.getElem_toArray, List.getElem_cons_zero, List.getElem_cons_succ]
  refine wpAnyH_take (i := 1) (v := ?_) rfl (by kernel_rfl) (by kernel_rfl) (by kernel_rfl) (fun _ _ _ h => h) (Or.inl ⟨by rfl, ?_⟩) hHeld ?_
  rotate_left
  · intro w hSw
    have hSw1 := hSw
    clear hSw
    have hb0 := hSw1.out.rw
    have hb1 := hSw1.out.lt
    go_simp
    try (with_reducible rfl)
  try simp only [Act.put, List.setIfInBounds_toArray, List.set_cons_zero, List.set_cons_succ, List.getElem_toArray, List.getElem_cons_zero, List.getElem_cons_succ]
  refine wpAnyH_take (i := 2) (v := ?_) rfl (by kernel_rfl) (by kernel_rfl) (by kernel_rfl) (fun _ _ _ h => h) (Or.inl ⟨by rfl, ?_⟩) hHeld ?_
  rotate_left
  · intro w hSw
    have hSw1 := hSw
    clear hSw
    try dsimp only at hSw1
    go_simp
    try (with_reducible rfl)
  try simp only [Act.put, List.setIfInBounds_toArray, List.set_cons_zero, List.set_cons_succ, List.getElem_toArray, List.getElem_cons_zero, List.getElem_cons_succ]
  refine wpAnyH_take (i := 3) (v := ?_) rfl (by kernel_rfl) (by kernel_rfl) (by kernel_rfl) (fun _ _ _ h => h) (Or.inl ⟨by rfl, ?_⟩) hHeld ?_
  rotate_left
  · intro w hSw
    have hSw1 := hSw
    clear hSw
    have hb0 := hSw1.out.rw
    have hb1 := hSw1.out.lt
    go_simp
    try (with_reducible rfl)
  try simp only [Act.put, List.setIfInBounds_toArray, List.set_cons_zero, List.set_cons_succ, List.getElem_toArray, List.getElem_cons_zero, List.getElem_cons_succ]
  refine wpAnyH_take (i := 4) (v := ?_) rfl (by kernel_rfl) (by kernel_rfl) (by kernel_rfl) (fun _ _ _ h => h) (Or.inl ⟨by rfl, ?_⟩) hHeld ?_
  rotate_left
  · intro w hSw
    have hSw1 := hSw
    clear hSw
    try dsimp only at hSw1
    go_simp
    try (with_reducible rfl)
  try simp only [Act.put, List.setIfInBounds_toArray, List.set_cons_zero, List.set_cons_succ, List.getElem_toArray, List.getElem_cons_zero, List.getElem_cons_succ]
  refine wpAnyH_take (i := 5) (v := ?_) rfl (by kernel_rfl) (by kernel_rfl) (by kernel_rfl) (fun _ _ _ h => h) (Or.inl ⟨by rfl, ?_⟩) hHeld ?_
  rotate_left
  · intro w hSw
    have hSw1 := hSw
    clear hSw
    have hb0 := hSw1.out.rw
    have hb1 := hSw1.out.lt
    go_simp
    try (with_reducible rfl)
  try simp only [Act.put, List.setIfInBounds_toArray, List.set_cons_zero, List.set_cons_succ, List.getElem_toArray, List.getElem_cons_zero, List.getElem_cons_succ]
  refine wpAnyH_take (i := 6) (v := ?_) rfl (by kernel_rfl) (by kernel_rfl) (by kernel_rfl) (fun _ _ _ h => h) (Or.inl ⟨by rfl, ?_⟩) hHeld ?_
  rotate_left
  · intro w hSw
    have hSw1 := hSw
    clear hSw
    try dsimp only at hSw1
    go_simp
    try (with_reducible rfl)
  try simp only [Act.put, List.setIfInBounds_toArray, List.set_cons_zero, List.set_cons_succ, List.getElem_toArray, List.getElem_cons_zero, List.getElem_cons_succ]
  refine wpAnyH_take (i := 7) (v := ?_) rfl (by kernel_rfl) (by kernel_rfl) (by kernel_rfl) (fun _ _ _ h => h) (Or.inl ⟨by rfl, ?_⟩) hHeld ?_
  rotate_left
  · intro w hSw
    have hSw1 := hSw
    clear hSw
    have hb0 := hSw1.out.rw
    have hb1 := hSw1.out.lt
    go_simp
    try (with_reducible rfl)
  try simp only [Act.put, List.setIfInBounds_toArray, List.set_cons_zero, List.set_cons_succ, List.getElem_toArray, List.getElem_cons_zero, List.getElem_cons_succ]
  refine wpAnyH_take (i := 8) (v := ?_) rfl (by kernel_rfl) (by kernel_rfl) (by kernel_rfl) (fun _ _ _ h => h) (Or.inl ⟨by rfl, ?_⟩) hHeld ?_
  rotate_left
  · intro w hSw
    have hSw1 := hSw
    clear hSw
    try dsimp only at hSw1
    go_simp
    try (with_reducible rfl)
  try simp only [Act.put, List.setIfInBounds_toArray, List.set_cons_zero, List.set_cons_succ, List.getElem_toArray, List.getElem_cons_zero, List.getElem_cons_succ]
  refine wpAnyH_ready (rs := [9]) (by kernel_rfl) (by simp) ?_
  refine AllReadyH.cons rfl (fun K hK => ?_) AllReadyH.nil
  go_simp
  skip
  go_wp2_with fail
  refine hK.out _ _ (Lib.hid (Blk.far (p := ⟨b + 1 + 1, 3, none⟩) hHeld.out (by simp; omega) _)) (fun hHeld2 => ?_)
  clear hK K hHeld
  try simp only [Act.put, List.setIfInBounds_toArray, List.set_cons_zero, List.set_cons_succ, List.getElem_toArray, List.getElem_cons_zero, List.getElem_cons_succ]
  refine wpAnyH_take (i := 10) (v := ?_) rfl (by kernel_rfl) (by kernel_rfl) (by kernel_rfl) (fun _ _ _ h => h) (Or.inl ⟨by rfl, ?_⟩) hHeld2 ?_
  rotate_left
  · intro w hSw
    have hSw1 := hSw
    clear hSw
    try dsimp only at hSw1
    go_simp
    try (with_reducible rfl)
  try simp only [Act.put, List.setIfInBounds_toArray, List.set_cons_zero, List.set_cons_succ, List.getElem_toArray, List.getElem_cons_zero, List.getElem_cons_succ]
  refine wpAnyH_ready (rs := [11]) (by kernel_rfl) (by simp) ?_
  refine AllReadyH.cons rfl (fun K hK => ?_) AllReadyH.nil
  go_simp
  skip
  go_wp2_with fail
  refine hK.out _ _ (Lib.hid (Blk.far (p := ⟨b + 1 + 1, 4, none⟩) hHeld2.out (by simp; omega) _)) (fun hHeld3 => ?_)
  clear hK K hHeld2
  try simp only [Act.put, List.setIfInBounds_toArray, List.set_cons_zero, List.set_cons_succ, List.getElem_toArray, List.getElem_cons_zero, List.getElem_cons_succ]
  refine wpAnyH_take (i := 12) (v := ?_) rfl (by kernel_rfl) (by kernel_rfl) (by kernel_rfl) (fun _ _ _ h => h) (Or.inl ⟨by rfl, ?_⟩) hHeld3 ?_
  rotate_left
  · intro w hSw
    have hSw1 := hSw
    clear hSw
    try dsimp only at hSw1
    go_simp
    try (with_reducible rfl)
  try simp only [Act.put, List.setIfInBounds_toArray, List.set_cons_zero, List.set_cons_succ, List.getElem_toArray, List.getElem_cons_zero, List.getElem_cons_succ]
  refine wpAnyH_ready (rs := [13]) (by kernel_rfl) (by simp) ?_
  refine AllReadyH.cons rfl (fun K hK => ?_) AllReadyH.nil
  go_simp
  skip
  go_wp2_with fail
  refine hK.out _ _ (Lib.hid (Blk.far (p := ⟨b + 1 + 1, 6, none⟩) hHeld3.out (by simp; omega) _)) (fun hHeld4 => ?_)
  clear hK K hHeld3
  try simp only [Act.put, List.setIfInBounds_toArray, List.set_cons_zero, List.set_cons_succ, List.getElem_toArray, List.getElem_cons_zero, List.getElem_cons_succ]
  refine wpAnyH_take (i := 14) (v := ?_) rfl (by kernel_rfl) (by kernel_rfl) (by kernel_rfl) (fun _ _ _ h => h) (Or.inl ⟨by rfl, ?_⟩) hHeld4 ?_
  rotate_left
  · intro w hSw
    have hSw1 := hSw
    clear hSw
    try dsimp only at hSw1
    go_simp
    try (with_reducible rfl)
  try simp only [Act.put, List.setIfInBounds_toArray, List.set_cons_zero, List.set_cons_succ, List.getElem_toArray, List.getElem_cons_zero, List.getElem_cons_succ]
  refine wpAnyH_ready (rs := [15]) (by kernel_rfl) (by simp) ?_
  refine AllReadyH.cons rfl (fun K hK => ?_) AllReadyH.nil
  go_simp
  skip
  go_wp2_with fail
  refine hK.out _ _ (Lib.hid (Blk.far (p := ⟨b + 1 + 1, 9, none⟩) hHeld4.out (by simp; omega) _)) (fun hHeld5 => ?_)
  clear hK K hHeld4
  try simp only [Act.put, List.setIfInBounds_toArray, List.set_cons_zero, List.set_cons_succ, List.getElem_toArray, List.getElem_cons_zero, List.getElem_cons_succ]
  refine wpAnyH_done (by kernel_rfl) ?_ _
  go_upto_region 15 with fail
  obtain ⟨W, hW⟩ : ∃ W, W = ((((V.setCell ⟨b + 1 + 1, 3, none⟩ (.int .i64 x.index)).setCell ⟨b + 1 + 1, 4, none⟩ (.int .i64 x.last)).setCell ⟨b + 1 + 1, 6, none⟩ (.int .i64 x.round)).setCell ⟨b + 1 + 1, 9, none⟩ (Str x.data)).drew := ⟨_, rfl⟩
  have ss0 : Step [b + 1 + 1] [b + 1 + 1] V W := by rw [hW]; exact (((((Step.refl [b + 1 + 1] V).setCell (.inl (by simp)) _).setCell (.inl (by simp)) _).setCell (.inl (by simp)) _).setCell (.inl (by simp)) _).drew
  have N : Hid (Blk W (b + 1 + 1) 24 (rwc ⟨x.kind, x.src, x.term, x.index, x.last, 0, x.round, false, [], x.data⟩ (.slice none 0 0)).toArray ∧ Blk W (b + 1) 24 #[.int .i64 0, .int .i64 0, .int .i64 0, .int .i64 0, .int .i64 0, .int .i64 0, .int .i64 0, .bool false, .slice none 0 0, .string ⟨#[]⟩] ∧ Step [] [] w W) := ⟨by rw [hW]; have hq := ((((H2.out.1.set 3 (.int .i64 x.index)).set 4 (.int .i64 x.last)).set 6 (.int .i64 x.round)).set 9 (Str x.data)).drew; simpa [rwc] using hq, H2.out.2.1.step ss0 (by simp), H2.out.2.2.out1 ss0 (by have := H1.out.2.2.2.2.2; omega)⟩
  rw [← hW]
  clear hW ss0 oc ol of0 of1 of2 of3 of4 of5 of6 of7 of8 of9
  have oc := N.out.1.rw
  have ol := N.out.1.lt
  have zl := N.out.2.1.lt
  have zc := fun j => N.out.2.1.cell j
  have zf := fun j => N.out.2.1.frozen j
  have zc0 := zc 0
  have zc1 := zc 1
  have zc2 := zc 2
  have zc3 := zc 3
  have zc4 := zc 4
  have zc5 := zc 5
  have zc6 := zc 6
  have zc7 := zc 7
  have zc8 := zc 8
  have zc9 := zc 9
  have zf0 := zf 0
  have zf1 := zf 1
  have zf2 := zf 2
  have zf3 := zf 3
  have zf4 := zf 4
  have zf5 := zf 5
  have zf6 := zf 6
  have zf7 := zf 7
  have zf8 := zf 8
  have zf9 := zf 9
  clear zc zf
  simp only [List.getElem?_toArray, List.getElem?_cons_zero, List.getElem?_cons_succ] at zc0 zc1 zc2 zc3 zc4 zc5 zc6 zc7 zc8 zc9
  go_wp2_with fail
  change bodyPost _ _ _ _ _ (putRw W (b + 1) ⟨x.kind, x.src, x.term, x.index, x.last, 0, x.round, false, [], x.data⟩ (.slice none 0 0))
  have P := (N.out.2.1.putRw ⟨x.kind, x.src, x.term, x.index, x.last, 0, x.round, false, [], x.data⟩ (.slice none 0 0)).rw
  have ss := step_putRw W (b + 1) ⟨x.kind, x.src, x.term, x.index, x.last, 0, x.round, false, [], x.data⟩ (.slice none 0 0)
  obtain ⟨U, hU⟩ : ∃ U, U = putRw W (b + 1) ⟨x.kind, x.src, x.term, x.index, x.last, 0, x.round, false, [], x.data⟩ (.slice none 0 0) := ⟨_, rfl⟩
  rw [← hU] at P ss ⊢
  clear hU
  have hbw := H1.out.2.2.2.2.2
  have hcl : cleanL x = ⟨x.kind, x.src, x.term, x.index, x.last, 0, x.round, false, [], x.data⟩ := by simp [cleanL, HC0.out]
  refine bodyPost_ret (v := .tuple #[rwV ⟨x.kind, x.src, x.term, x.index, x.last, 0, x.round, false, [], x.data⟩ (.slice none 0 0), .bool true]) ?_ rfl ⟨none, 0, ?_, ?_, N.out.2.2.out1 ss (by omega)⟩
  · simp [results, Try.results10, go_sem, P]
  · rw [hcl, HIK.out]; rfl
  · rw [hcl]; exact (Row.none _ 3).rd

set_option maxHeartbeats 4000000 in
theorem clean2_any (x : Rw) (a : Option Addr) (cap : Nat) (w : World) (hk : x.kind = 2) (hr : Rd w 3 a x.es.length (entcs x.es)) : Calls Try.prog 10 #[rwV x (.slice a x.es.length cap)] w (CleanPost x w) := by
  have HC0 := Lib.hid hk
  have hik : isKind x.kind = true := by rw [hk]; rfl
  have HIK := Lib.hid hik
  have k1 : (x.kind == 1) = false := by rw [hk]; rfl
  have k2 : (x.kind == 2) = true := by rw [hk]; rfl
  have k3 : (x.kind == 3) = false := by rw [hk]; rfl
  have k4 : (x.kind == 4) = false := by rw [hk]; rfl
  have k5 : (x.kind == 5) = false := by rw [hk]; rfl
  have HR := Lib.hid hr
  clear hk hik hr
  go_enter Try.func10, Try.ntmps10
  go_upto_region 2 with fail
  obtain ⟨b, hb⟩ : ∃ b, b = w.heap.size := ⟨_, rfl⟩
  obtain ⟨V, hV⟩ : ∃ V, V = (((w.alloc (.cells #[.int .i64 x.kind, .int .i64 x.src, .int .i64 x.term, .int .i64 x.index, .int .i64 x.last, .int .i64 x.commit, .int .i64 x.round, .bool x.yes, .slice a x.es.length cap, .string ⟨x.data.toArray⟩] 24)).alloc (.cells #[.int .i64 0, .int .i64 0, .int .i64 0, .int .i64 0, .int .i64 0, .int .i64 0, .int .i64 0, .bool false, .slice none 0 0, .string ⟨#[]⟩] 24)).alloc (.cells #[.int .i64 x.kind, .int .i64 x.src, .int .i64 x.term, .int .i64 0, .int .i64 0, .int .i64 0, .int .i64 0, .bool false, .slice none 0 0, .string ⟨#[]⟩] 24)) := ⟨_, rfl⟩
  have H1 : Hid (Blk V b 24 (rwc x (.slice a x.es.length cap)).toArray ∧ Blk V (b + 1) 24 #[.int .i64 0, .int .i64 0, .int .i64 0, .int .i64 0, .int .i64 0, .int .i64 0, .int .i64 0, .bool false, .slice none 0 0, .string ⟨#[]⟩] ∧ Blk V (b + 1 + 1) 24 (rwc ⟨x.kind, x.src, x.term, 0, 0, 0, 0, false, [], []⟩ (.slice none 0 0)).toArray ∧ Rd V 3 a x.es.length (entcs x.es) ∧ Step [] [] w V ∧ b = w.heap.size) := by
    rw [hV, hb]
    have B := blk3w w 24 24 24 (rwc x (.slice a x.es.length cap)).toArray #[.int .i64 0, .int .i64 0, .int .i64 0, .int .i64 0, .int .i64 0, .int .i64 0, .int .i64 0, .bool false, .slice none 0 0, .string ⟨#[]⟩] (rwc ⟨x.kind, x.src, x.term, 0, 0, 0, 0, false, [], []⟩ (.slice none 0 0)).toArray
    exact ⟨B.1, B.2.1, B.2.2, ((HR.out.alloc _).alloc _).alloc _, (((Step.refl [] w).alloc _).alloc _).alloc _, rfl⟩
  rw [← hV, ← hb]
  clear hV hb
  have ra := H1.out.1.rw
  have rl := H1.out.1.lt
  have oc := H1.out.2.2.1.rw
  have ol := H1.out.2.2.1.lt
  have of_ := H1.out.2.2.1.frozen
  have of0 := of_ 0
  have of1 := of_ 1
  have of2 := of_ 2
  have of3 := of_ 3
  have of4 := of_ 4
  have of5 := of_ 5
  have of6 := of_ 6
  have of7 := of_ 7
  have of8 := of_ 8
  have of9 := of_ 9
  clear of_
  go_upto_region 15 with fail
  clear ra rl
  have H2 : Hid (Blk V (b + 1 + 1) 24 (rwc ⟨x.kind, x.src, x.term, 0, 0, 0, 0, false, [], []⟩ (.slice none 0 0)).toArray ∧ Blk V (b + 1) 24 #[.int .i64 0, .int .i64 0, .int .i64 0, .int .i64 0, .int .i64 0, .int .i64 0, .int .i64 0, .bool false, .slice none 0 0, .string ⟨#[]⟩] ∧ Step [] [] w V) := ⟨H1.out.2.2.1, H1.out.2.1, H1.out.2.2.2.2.1⟩
  obtain ⟨W, hW⟩ : ∃ W, W = (V.setCell ⟨b + 1 + 1, 7, none⟩ (.bool x.yes)) := ⟨_, rfl⟩
  have ss0 : Step [b + 1 + 1] [b + 1 + 1] V W := by rw [hW]; exact ((Step.refl [b + 1 + 1] V).setCell (.inl (by simp)) _)
  have N : Hid (Blk W (b + 1 + 1) 24 (rwc ⟨x.kind, x.src, x.term, 0, 0, 0, 0, x.yes, [], []⟩ (.slice none 0 0)).toArray ∧ Blk W (b + 1) 24 #[.int .i64 0, .int .i64 0, .int .i64 0, .int .i64 0, .int .i64 0, .int .i64 0, .int .i64 0, .bool false, .slice none 0 0, .string ⟨#[]⟩] ∧ Step [] [] w W) := ⟨by rw [hW]; have hq := (H2.out.1.set 7 (.bool x.yes)); simpa [rwc] using hq, H2.out.2.1.step ss0 (by simp), H2.out.2.2.out1 ss0 (by have := H1.out.2.2.2.2.2; omega)⟩
  rw [← hW]
  clear hW ss0 oc ol of0 of1 of2 of3 of4 of5 of6 of7 of8 of9
  have oc := N.out.1.rw
  have ol := N.out.1.lt
  have zl := N.out.2.1.lt
  have zc := fun j => N.out.2.1.cell j
  have zf := fun j => N.out.2.1.frozen j
  have zc0 := zc 0
  have zc1 := zc 1
  have zc2 := zc 2
  have zc3 := zc 3
  have zc4 := zc 4
  have zc5 := zc 5
  have zc6 := zc 6
  have zc7 := zc 7
  have zc8 := zc 8
  have zc9 := zc 9
  have zf0 := zf 0
  have zf1 := zf 1
  have zf2 := zf 2
  have zf3 := zf 3
  have zf4 := zf 4
  have zf5 := zf 5
  have zf6 := zf 6
  have zf7 := zf 7
  have zf8 := zf 8
  have zf9 := zf 9
  clear zc zf
  simp only [List.getElem?_toArray, List.getElem?_cons_zero, List.getElem?_cons_succ] at zc0 zc1 zc2 zc3 zc4 zc5 zc6 zc7 zc8 zc9
  go_wp2_with fail
  change bodyPost _ _ _ _ _ (putRw W (b + 1) ⟨x.kind, x.src, x.term, 0, 0, 0, 0, x.yes, [], []⟩ (.slice none 0 0))
  have P := (N.out.2.1.putRw ⟨x.kind, x.src, x.term, 0, 0, 0, 0, x.yes, [], []⟩ (.slice none 0 0)).rw
  have ss := step_putRw W (b + 1) ⟨x.kind, x.src, x.term, 0, 0, 0, 0, x.yes, [], []⟩ (.slice none 0 0)
  obtain ⟨U, hU⟩ : ∃ U, U = putRw W (b + 1) ⟨x.kind, x.src, x.term, 0, 0, 0, 0, x.yes, [], []⟩ (.slice none 0 0) := ⟨_, rfl⟩
  rw [← hU] at P ss ⊢
  clear hU
  have hbw := H1.out.2.2.2.2.2
  have hcl : cleanL x = ⟨x.kind, x.src, x.term, 0, 0, 0, 0, x.yes, [], []⟩ := by simp [cleanL, HC0.out]
  refine bodyPost_ret (v := .tuple #[rwV ⟨x.kind, x.src, x.term, 0, 0, 0, 0, x.yes, [], []⟩ (.slice none 0 0), .bool true]) ?_ rfl ⟨none, 0, ?_, ?_, N.out.2.2.out1 ss (by omega)⟩
  · simp [results, Try.results10, go_sem, P]
  · rw [hcl, HIK.out]; rfl
  · rw [hcl]; exact (Row.none _ 3).rd

theorem Step.out2 {w w1 w' : World} {S S' : List Nat} (h : Step [] [] w w1) (k : Step S S' w1 w') (hb : ∀ g, g ∈ S → w.heap.size ≤ g) : Step [] [] w w' :=
  ⟨k.os.trans h.os, k.tape.trans h.tape, k.output.trans h.output, Nat.le_trans h.size k.size, fun g hg _ => by
    refine (k.block g (Nat.lt_of_lt_of_le hg h.size) fun hm => ?_).trans (h.block g hg (by simp))
    have := hb g hm
    omega, fun g hg => by simp at hg⟩

set_option maxHeartbeats 8000000 in
theorem clean3_any (x : Rw) (a : Option Addr) (cap : Nat) (w : World) (hk : x.kind = 3) (hr : Rd w 3 a x.es.length (entcs x.es)) (hl : x.es.length ≤ 4398046511104) : Calls Try.prog 10 #[rwV x (.slice a x.es.length cap)] w (CleanPost x w) := by
  have HC0 := Lib.hid hk
  have hik : isKind x.kind = true := by rw [hk]; rfl
  have HIK := Lib.hid hik
  have k1 : (x.kind == 1) = false := by rw [hk]; rfl
  have k2 : (x.kind == 2) = false := by rw [hk]; rfl
  have k3 : (x.kind == 3) = true := by rw [hk]; rfl
  have k4 : (x.kind == 4) = false := by rw [hk]; rfl
  have k5 : (x.kind == 5) = false := by rw [hk]; rfl
  have HR := Lib.hid hr
  clear hk hik hr
  go_enter Try.func10, Try.ntmps10
  go_upto_region 2 with fail
  obtain ⟨b, hb⟩ : ∃ b, b = w.heap.size := ⟨_, rfl⟩
  obtain ⟨V, hV⟩ : ∃ V, V = (((w.alloc (.cells #[.int .i64 x.kind, .int .i64 x.src, .int .i64 x.term, .int .i64 x.index, .int .i64 x.last, .int .i64 x.commit, .int .i64 x.round, .bool x.yes, .slice a x.es.length cap, .string ⟨x.data.toArray⟩] 24)).alloc (.cells #[.int .i64 0, .int .i64 0, .int .i64 0, .int .i64 0, .int .i64 0, .int .i64 0, .int .i64 0, .bool false, .slice none 0 0, .string ⟨#[]⟩] 24)).alloc (.cells #[.int .i64 x.kind, .int .i64 x.src, .int .i64 x.term, .int .i64 0, .int .i64 0, .int .i64 0, .int .i64 0, .bool false, .slice none 0 0, .string ⟨#[]⟩] 24)) := ⟨_, rfl⟩
  have H1 : Hid (Blk V b 24 (rwc x (.slice a x.es.length cap)).toArray ∧ Blk V (b + 1) 24 #[.int .i64 0, .int .i64 0, .int .i64 0, .int .i64 0, .int .i64 0, .int .i64 0, .int .i64 0, .bool false, .slice none 0 0, .string ⟨#[]⟩] ∧ Blk V (b + 1 + 1) 24 (rwc ⟨x.kind, x.src, x.term, 0, 0, 0, 0, false, [], []⟩ (.slice none 0 0)).toArray ∧ Rd V 3 a x.es.length (entcs x.es) ∧ Step [] [] w V ∧ b = w.heap.size) := by
    rw [hV, hb]
    have B := blk3w w 24 24 24 (rwc x (.slice a x.es.length cap)).toArray #[.int .i64 0, .int .i64 0, .int .i64 0, .int .i64 0, .int .i64 0, .int .i64 0, .int .i64 0, .bool false, .slice none 0 0, .string ⟨#[]⟩] (rwc ⟨x.kind, x.src, x.term, 0, 0, 0, 0, false, [], []⟩ (.slice none 0 0)).toArray
    exact ⟨B.1, B.2.1, B.2.2, ((HR.out.alloc _).alloc _).alloc _, (((Step.refl [] w).alloc _).alloc _).alloc _, rfl⟩
  rw [← hV, ← hb]
  clear hV hb
  have ra := H1.out.1.rw
  have rl := H1.out.1.lt
  go_upto_region 9 with fail
  clear ra rl
  have H2 : Hid (Blk V (b + 1 + 1) 24 (rwc ⟨x.kind, x.src, x.term, 0, 0, 0, 0, false, [], []⟩ (.slice none 0 0)).toArray ∧ Blk V (b + 1) 24 #[.int .i64 0, .int .i64 0, .int .i64 0, .int .i64 0, .int .i64 0, .int .i64 0, .int .i64 0, .bool false, .slice none 0 0, .string ⟨#[]⟩] ∧ Step [] [] w V) := ⟨H1.out.2.2.1, H1.out.2.1, H1.out.2.2.2.2.1⟩
  have oc := H1.out.2.2.1.rw
  have ol := H1.out.2.2.1.lt
  have of_ := H1.out.2.2.1.frozen
  have of0 := of_ 0
  have of1 := of_ 1
  have of2 := of_ 2
  have of3 := of_ 3
  have of4 := of_ 4
  have of5 := of_ 5
  have of6 := of_ 6
  have of7 := of_ 7
  have of8 := of_ 8
  have of9 := of_ 9
  clear of_
  refine wp_region_held_drew (S := fun V => Hid (Blk V b 24 (rwc x (.slice a x.es.length cap)).toArray)) (by kernel_rfl) (Lib.hid H1.out.1.drew) (fun hHeld => ?_)
  refine wpAnyH_take (i := 0) (v := ?_) rfl (by kernel_rfl) (by kernel_rfl) (by kernel_rfl) (fun _ _ _ h => h) (Or.inl ⟨by rfl, ?_⟩) hHeld ?_
  rotate_left
  · intro w hSw
    have hSw1 := hSw
    clear hSw
    try dsimp only at hSw1
    go_simp
    try (with_reducible rfl)
  try simp only [Act.put, List.setIfInBounds_toArray, List.set_cons_zero, List.set_cons_succ, List.getElem_toArray, List.getElem_cons_zero, List.getElem_cons_succ]
  refine wpAnyH_take (i := 1) (v := ?_) rfl (by kernel_rfl) (by kernel_rfl) (by kernel_rfl) (fun _ _ _ h => h) (Or.inl ⟨by rfl, ?_⟩) hHeld ?_
  rotate_left
  · intro w hSw
    have hSw1 := hSw
    clear hSw
    have hb0 := hSw1.out.rw
    have hb1 := hSw1.out.lt
    go_simp
    try (with_reducible rfl)
  try simp only [Act.put, List.setIfInBounds_toArray, List.set_cons_zero, List.set_cons_succ, List.getElem_toArray, List.getElem_cons_zero, List.getElem_cons_succ]
  refine wpAnyH_take (i := 2) (v := ?_) rfl (by kernel_rfl) (by kernel_rfl) (by kernel_rfl) (fun _ _ _ h => h) (Or.inl ⟨by rfl, ?_⟩) hHeld ?_
  rotate_left
  · intro w hSw
    have hSw1 := hSw
    clear hSw
    try dsimp only at hSw1
    go_simp
    try (with_reducible rfl)
  try simp only [Act.put, List.setIfInBounds_toArray, List.set_cons_zero, List.set_cons_succ, List.getElem_toArray, List.getElem_cons_zero, List.getElem_cons_succ]
  refine wpAnyH_take (i := 3) (v := ?_) rfl (by kernel_rfl) (by kernel_rfl) (by kernel_rfl) (fun _ _ _ h => h) (Or.inl ⟨by rfl, ?_⟩) hHeld ?_
  rotate_left
  · intro w hSw
    have hSw1 := hSw
    clear hSw
    have hb0 := hSw1.out.rw
    have hb1 := hSw1.out.lt
    go_simp
    try (with_reducible rfl)
  try simp only [Act.put, List.setIfInBounds_toArray, List.set_cons_zero, List.set_cons_succ, List.getElem_toArray, List.getElem_cons_zero, List.getElem_cons_succ]
  refine wpAnyH_take (i := 4) (v := ?_) rfl (by kernel_rfl) (by kernel_rfl) (by kernel_rfl) (fun _ _ _ h => h) (Or.inl ⟨by rfl, ?_⟩) hHeld ?_
  rotate_left
  · intro w hSw
    have hSw1 := hSw
    clear hSw
    try dsimp only at hSw1
    go_simp
    try (with_reducible rfl)
  try simp only [Act.put, List.setIfInBounds_toArray, List.set_cons_zero, List.set_cons_succ, List.getElem_toArray, List.getElem_cons_zero, List.getElem_cons_succ]
  refine wpAnyH_take (i := 5) (v := ?_) rfl (by kernel_rfl) (by kernel_rfl) (by kernel_rfl) (fun _ _ _ h => h) (Or.inl ⟨by rfl, ?_⟩) hHeld ?_
  rotate_left
  · intro w hSw
    have hSw1 := hSw
    clear hSw
    have hb0 := hSw1.out.rw
    have hb1 := hSw1.out.lt
    go_simp
    try (with_reducible rfl)
  try simp only [Act.put, List.setIfInBounds_toArray, List.set_cons_zero, List.set_cons_succ, List.getElem_toArray, List.getElem_cons_zero, List.getElem_cons_succ]
  refine wpAnyH_take (i := 6) (v := ?_) rfl (by kernel_rfl) (by kernel_rfl) (by kernel_rfl) (fun _ _ _ h => h) (Or.inl ⟨by rfl, ?_⟩) hHeld ?_
  rotate_left
  · intro w hSw
    have hSw1 := hSw
    clear hSw
    try dsimp only at hSw1
    go_simp
    try (with_reducible rfl)
  try simp only [Act.put, List.setIfInBounds_toArray, List.set_cons_zero, List.set_cons_succ, List.getElem_toArray, List.getElem_cons_zero, List.getElem_cons_succ]
  refine wpAnyH_take (i := 7) (v := ?_) rfl (by kernel_rfl) (by kernel_rfl) (by kernel_rfl) (fun _ _ _ h => h) (Or.inl ⟨by rfl, ?_⟩) hHeld ?_
  rotate_left
  · intro w hSw
    have hSw1 := hSw
    clear hSw
    have hb0 := hSw1.out.rw
    have hb1 := hSw1.out.lt
    go_simp
    try (with_reducible rfl)
  try simp only [Act.put, List.setIfInBounds_toArray, List.set_cons_zero, List.set_cons_succ, List.getElem_toArray, List.getElem_cons_zero, List.getElem_cons_succ]
  refine wpAnyH_take (i := 8) (v := ?_) rfl (by kernel_rfl) (by kernel_rfl) (by kernel_rfl) (fun _ _ _ h => h) (Or.inl ⟨by rfl, ?_⟩) hHeld ?_
  rotate_left
  · intro w hSw
    have hSw1 := hSw
    clear hSw
    try dsimp only at hSw1
    go_simp
    try (with_reducible rfl)
  try simp only [Act.put, List.setIfInBounds_toArray, List.set_cons_zero, List.set_cons_succ, List.getElem_toArray, List.getElem_cons_zero, List.getElem_cons_succ]
  refine wpAnyH_ready (rs := [9]) (by kernel_rfl) (by simp) ?_
  refine AllReadyH.cons rfl (fun K hK => ?_) AllReadyH.nil
  go_simp
  skip
  go_wp2_with fail
  refine hK.out _ _ (Lib.hid (Blk.far (p := ⟨b + 1 + 1, 3, none⟩) hHeld.out (by simp; omega) _)) (fun hHeld2 => ?_)
  clear hK K hHeld
  try simp only [Act.put, List.setIfInBounds_toArray, List.set_cons_zero, List.set_cons_succ, List.getElem_toArray, List.getElem_cons_zero, List.getElem_cons_succ]
  refine wpAnyH_take (i := 10) (v := ?_) rfl (by kernel_rfl) (by kernel_rfl) (by kernel_rfl) (fun _ _ _ h => h) (Or.inl ⟨by rfl, ?_⟩) hHeld2 ?_
  rotate_left
  · intro w hSw
    have hSw1 := hSw
    clear hSw
    try dsimp only at hSw1
    go_simp
    try (with_reducible rfl)
  try simp only [Act.put, List.setIfInBounds_toArray, List.set_cons_zero, List.set_cons_succ, List.getElem_toArray, List.getElem_cons_zero, List.getElem_cons_succ]
  refine wpAnyH_ready (rs := [11]) (by kernel_rfl) (by simp) ?_
  refine AllReadyH.cons rfl (fun K hK => ?_) AllReadyH.nil
  go_simp
  skip
  go_wp2_with fail
  refine hK.out _ _ (Lib.hid (Blk.far (p := ⟨b + 1 + 1, 4, none⟩) hHeld2.out (by simp; omega) _)) (fun hHeld3 => ?_)
  clear hK K hHeld2
  try simp only [Act.put, List.setIfInBounds_toArray, List.set_cons_zero, List.set_cons_succ, List.getElem_toArray, List.getElem_cons_zero, List.getElem_cons_succ]
  refine wpAnyH_take (i := 12) (v := ?_) rfl (by kernel_rfl) (by kernel_rfl) (by kernel_rfl) (fun _ _ _ h => h) (Or.inl ⟨by rfl, ?_⟩) hHeld3 ?_
  rotate_left
  · intro w hSw
    have hSw1 := hSw
    clear hSw
    try dsimp only at hSw1
    go_simp
    try (with_reducible rfl)
  try simp only [Act.put, List.setIfInBounds_toArray, List.set_cons_zero, List.set_cons_succ, List.getElem_toArray, List.getElem_cons_zero, List.getElem_cons_succ]
  refine wpAnyH_ready (rs := [13]) (by kernel_rfl) (by simp) ?_
  refine AllReadyH.cons rfl (fun K hK => ?_) AllReadyH.nil
  go_simp
  skip
  go_wp2_with fail
  refine hK.out _ _ (Lib.hid (Blk.far (p := ⟨b + 1 + 1, 5, none⟩) hHeld3.out (by simp; omega) _)) (fun hHeld4 => ?_)
  clear hK K hHeld3
  try simp only [Act.put, List.setIfInBounds_toArray, List.set_cons_zero, List.set_cons_succ, List.getElem_toArray, List.getElem_cons_zero, List.getElem_cons_succ]
  refine wpAnyH_take (i := 14) (v := ?_) rfl (by kernel_rfl) (by kernel_rfl) (by kernel_rfl) (fun _ _ _ h => h) (Or.inl ⟨by rfl, ?_⟩) hHeld4 ?_
  rotate_left
  · intro w hSw
    have hSw1 := hSw
    clear hSw
    try dsimp only at hSw1
    go_simp
    try (with_reducible rfl)
  try simp only [Act.put, List.setIfInBounds_toArray, List.set_cons_zero, List.set_cons_succ, List.getElem_toArray, List.getElem_cons_zero, List.getElem_cons_succ]
  refine wpAnyH_ready (rs := [15]) (by kernel_rfl) (by simp) ?_
  refine AllReadyH.cons rfl (fun K hK => ?_) AllReadyH.nil
  go_simp
  skip
  go_wp2_with fail
  refine hK.out _ _ (Lib.hid (Blk.far (p := ⟨b + 1 + 1, 6, none⟩) hHeld4.out (by simp; omega) _)) (fun hHeld5 => ?_)
  clear hK K hHeld4
  try simp only [Act.put, List.setIfInBounds_toArray, List.set_cons_zero, List.set_cons_succ, List.getElem_toArray, List.getElem_cons_zero, List.getElem_cons_succ]
  refine wpAnyH_done (by kernel_rfl) ?_ _
  go_upto_region 10 with fail
  obtain ⟨W, hW⟩ : ∃ W, W = ((((V.setCell ⟨b + 1 + 1, 3, none⟩ (.int .i64 x.index)).setCell ⟨b + 1 + 1, 4, none⟩ (.int .i64 x.last)).setCell ⟨b + 1 + 1, 5, none⟩ (.int .i64 x.commit)).setCell ⟨b + 1 + 1, 6, none⟩ (.int .i64 x.round)).drew := ⟨_, rfl⟩
  have ss0 : Step [b + 1 + 1] [b + 1 + 1] V W := by rw [hW]; exact (((((Step.refl [b + 1 + 1] V).setCell (.inl (by simp)) _).setCell (.inl (by simp)) _).setCell (.inl (by simp)) _).setCell (.inl (by simp)) _).drew
  have N : Hid (Blk W (b + 1 + 1) 24 (rwc ⟨x.kind, x.src, x.term, x.index, x.last, x.commit, x.round, false, [], []⟩ (.slice none 0 0)).toArray ∧ Blk W (b + 1) 24 #[.int .i64 0, .int .i64 0, .int .i64 0, .int .i64 0, .int .i64 0, .int .i64 0, .int .i64 0, .bool false, .slice none 0 0, .string ⟨#[]⟩] ∧ Step [] [] w W) := ⟨by rw [hW]; have hq := ((((H2.out.1.set 3 (.int .i64 x.index)).set 4 (.int .i64 x.last)).set 5 (.int .i64 x.commit)).set 6 (.int .i64 x.round)).drew; simpa [rwc] using hq, H2.out.2.1.step ss0 (by simp), H2.out.2.2.out1 ss0 (by have := H1.out.2.2.2.2.2; omega)⟩
  have HWW := Lib.hid hW
  rw [← hW]
  clear hW ss0 oc ol of0 of1 of2 of3 of4 of5 of6 of7 of8 of9
  have NB : Hid (Blk W b 24 (rwc x (.slice a x.es.length cap)).toArray ∧ Rd W 3 a x.es.length (entcs x.es)) := by rw [show W = ((((V.setCell ⟨b + 1 + 1, 3, none⟩ (.int .i64 x.index)).setCell ⟨b + 1 + 1, 4, none⟩ (.int .i64 x.last)).setCell ⟨b + 1 + 1, 5, none⟩ (.int .i64 x.commit)).setCell ⟨b + 1 + 1, 6, none⟩ (.int .i64 x.round)).drew from HWW.out]; exact ⟨((((H1.out.1.far (by simp; omega) _).far (by simp; omega) _).far (by simp; omega) _).far (by simp; omega) _).drew, by have hq := HR.out.step0 N.out.2.2; rwa [HWW.out] at hq⟩
  have ra := NB.out.1.rw
  have rl := NB.out.1.lt
  obtain ⟨i0, hi, hz0, hz1, hz2⟩ := info_parts Try.info_ent
  have HI := Lib.hid (And.intro hi (And.intro hz0 (And.intro hz1 hz2)))
  clear hi hz0 hz1 hz2
  have HSR : Hid (Src Try.prog (W.alloc (.cells #[] 60)) 3 22 (.slice a x.es.length cap) x.es.length (entcs x.es)) := Lib.hid (Src.rd _ _ Try.underlying22 (NB.out.2.alloc _) (entcs_one _))
  go_upto_region 15 with (at_builtin; refine wpList_append_row rfl (.tmp 42) (.tmp 44) 22 22 rfl 60 i0 _ 3 32 Try.underlying22 HI.out.1 HI.out.2.1 HI.out.2.2.1 HI.out.2.2.2 rfl rfl (Row.empty W 60 3) rfl HSR.out (by unfold maxLen; omega) (by omega) (by omega) ?_; intro a5 c5 w5 hr5 st5; rw [Nat.zero_add, List.nil_append] at hr5; rw [Nat.zero_add]; have hne : ∀ j, j < W.heap.size → j ∉ [W.heap.size] := (by intro j hj; simp; omega); have Q : Hid (Row w5 3 a5 x.es.length c5 (entcs x.es) ∧ Blk w5 (b + 1 + 1) 24 (rwc ⟨x.kind, x.src, x.term, x.index, x.last, x.commit, x.round, false, [], []⟩ (.slice none 0 0)).toArray ∧ Blk w5 (b + 1) 24 #[.int .i64 0, .int .i64 0, .int .i64 0, .int .i64 0, .int .i64 0, .int .i64 0, .int .i64 0, .bool false, .slice none 0 0, .string ⟨#[]⟩] ∧ Step [] [] w w5 ∧ (∀ j, j < W.heap.size → j ∉ blks a5) ∧ b + 1 + 1 < W.heap.size) := ⟨hr5, (N.out.1.alloc _).step st5 (hne _ N.out.1.lt), (N.out.2.1.alloc _).step st5 (hne _ N.out.2.1.lt), (N.out.2.2.alloc _).out2 st5 (by have := N.out.2.2.size; simp [blks]; omega), fun j hj => st5.notin (by simp; omega) (hne j hj), N.out.1.lt⟩; clear hr5 st5 hne; have oc := Q.out.2.1.rw; have ol := Q.out.2.1.lt; have of8 := Q.out.2.1.frozen 8)
  obtain ⟨W2, hW2⟩ : ∃ W2, W2 = w5.setCell ⟨b + 1 + 1, 8, none⟩ (.slice a5 x.es.length c5) := ⟨_, rfl⟩
  have ss1 : Step [b + 1 + 1] [b + 1 + 1] w5 W2 := by rw [hW2]; exact (Step.refl _ w5).setCell (.inl (by simp)) _
  have N2 : Hid (Blk W2 (b + 1 + 1) 24 (rwc ⟨x.kind, x.src, x.term, x.index, x.last, x.commit, x.round, false, [], []⟩ (.slice a5 x.es.length c5)).toArray ∧ Blk W2 (b + 1) 24 #[.int .i64 0, .int .i64 0, .int .i64 0, .int .i64 0, .int .i64 0, .int .i64 0, .int .i64 0, .bool false, .slice none 0 0, .string ⟨#[]⟩] ∧ Step [] [] w W2) := ⟨by rw [hW2]; have hq := Q.out.2.1.set 8 (.slice a5 x.es.length c5); simpa [rwc] using hq, Q.out.2.2.1.step ss1 (by simp), Q.out.2.2.2.1.out1 ss1 (by have := H1.out.2.2.2.2.2; omega)⟩
  have R2 := Lib.hid (Q.out.1.rd.step ss1 (fun g hg e => by simp at e; subst e; exact Q.out.2.2.2.2.1 _ Q.out.2.2.2.2.2 hg))
  rw [← hW2]
  clear hW2 ss1 oc ol of8 ra rl N
  have N := N2
  clear N2
  have oc := N.out.1.rw
  have ol := N.out.1.lt
  have zl := N.out.2.1.lt
  have zc := fun j => N.out.2.1.cell j
  have zf := fun j => N.out.2.1.frozen j
  have zc0 := zc 0
  have zc1 := zc 1
  have zc2 := zc 2
  have zc3 := zc 3
  have zc4 := zc 4
  have zc5 := zc 5
  have zc6 := zc 6
  have zc7 := zc 7
  have zc8 := zc 8
  have zc9 := zc 9
  have zf0 := zf 0
  have zf1 := zf 1
  have zf2 := zf 2
  have zf3 := zf 3
  have zf4 := zf 4
  have zf5 := zf 5
  have zf6 := zf 6
  have zf7 := zf 7
  have zf8 := zf 8
  have zf9 := zf 9
  clear zc zf
  simp only [List.getElem?_toArray, List.getElem?_cons_zero, List.getElem?_cons_succ] at zc0 zc1 zc2 zc3 zc4 zc5 zc6 zc7 zc8 zc9
  go_wp2_with fail
  change bodyPost _ _ _ _ _ (putRw W2 (b + 1) ⟨x.kind, x.src, x.term, x.index, x.last, x.commit, x.round, false, [], []⟩ (.slice a5 x.es.length c5))
  have P := (N.out.2.1.putRw ⟨x.kind, x.src, x.term, x.index, x.last, x.commit, x.round, false, [], []⟩ (.slice a5 x.es.length c5)).rw
  have ss := step_putRw W2 (b + 1) ⟨x.kind, x.src, x.term, x.index, x.last, x.commit, x.round, false, [], []⟩ (.slice a5 x.es.length c5)
  obtain ⟨U, hU⟩ : ∃ U, U = putRw W2 (b + 1) ⟨x.kind, x.src, x.term, x.index, x.last, x.commit, x.round, false, [], []⟩ (.slice a5 x.es.length c5) := ⟨_, rfl⟩
  rw [← hU] at P ss ⊢
  clear hU
  have hbw := H1.out.2.2.2.2.2
  have hcl : cleanL x = ⟨x.kind, x.src, x.term, x.index, x.last, x.commit, x.round, false, x.es, []⟩ := by simp [cleanL, HC0.out]
  refine bodyPost_ret (v := .tuple #[rwV ⟨x.kind, x.src, x.term, x.index, x.last, x.commit, x.round, false, x.es, []⟩ (.slice a5 x.es.length c5), .bool true]) ?_ rfl ⟨a5, c5, ?_, ?_, N.out.2.2.out1 ss (by omega)⟩
  · simp [results, Try.results10, go_sem, P]
  · rw [hcl, HIK.out]
  · rw [hcl]
    exact R2.out.step ss (fun g hg e => by simp at e; subst e; exact Q.out.2.2.2.2.1 _ (by have := Q.out.2.2.2.2.2; omega) hg)

set_option maxHeartbeats 4000000 in
theorem clean0_any (x : Rw) (a : Option Addr) (cap : Nat) (w : World) (hk : isKind x.kind = false) (hr : Rd w 3 a x.es.length (entcs x.es)) : Calls Try.prog 10 #[rwV x (.slice a x.es.length cap)] w (CleanPost x w) := by
  have HC0 := Lib.hid hk
  have hik : isKind x.kind = false := by exact hk
  have HIK := Lib.hid hik
  have k1 : (x.kind == 1) = false := by simp [isKind] at hk ⊢; omega
  have k2 : (x.kind == 2) = false := by simp [isKind] at hk ⊢; omega
  have k3 : (x.kind == 3) = false := by simp [isKind] at hk ⊢; omega
  have k4 : (x.kind == 4) = false := by simp [isKind] at hk ⊢; omega
  have k5 : (x.kind == 5) = false := by simp [isKind] at hk ⊢; omega
  have HR := Lib.hid hr
  clear hk hik hr
  go_enter Try.func10, Try.ntmps10
  go_upto_region 2 with fail
  obtain ⟨b, hb⟩ : ∃ b, b = w.heap.size := ⟨_, rfl⟩
  obtain ⟨V, hV⟩ : ∃ V, V = (((w.alloc (.cells #[.int .i64 x.kind, .int .i64 x.src, .int .i64 x.term, .int .i64 x.index, .int .i64 x.last, .int .i64 x.commit, .int .i64 x.round, .bool x.yes, .slice a x.es.length cap, .string ⟨x.data.toArray⟩] 24)).alloc (.cells #[.int .i64 0, .int .i64 0, .int .i64 0, .int .i64 0, .int .i64 0, .int .i64 0, .int .i64 0, .bool false, .slice none 0 0, .string ⟨#[]⟩] 24)).alloc (.cells #[.int .i64 x.kind, .int .i64 x.src, .int .i64 x.term, .int .i64 0, .int .i64 0, .int .i64 0, .int .i64 0, .bool false, .slice none 0 0, .string ⟨#[]⟩] 24)) := ⟨_, rfl⟩
  have H1 : Hid (Blk V b 24 (rwc x (.slice a x.es.length cap)).toArray ∧ Blk V (b + 1) 24 #[.int .i64 0, .int .i64 0, .int .i64 0, .int .i64 0, .int .i64 0, .int .i64 0, .int .i64 0, .bool false, .slice none 0 0, .string ⟨#[]⟩] ∧ Blk V (b + 1 + 1) 24 (rwc ⟨x.kind, x.src, x.term, 0, 0, 0, 0, false, [], []⟩ (.slice none 0 0)).toArray ∧ Rd V 3 a x.es.length (entcs x.es) ∧ Step [] [] w V ∧ b = w.heap.size) := by
    rw [hV, hb]
    have B := blk3w w 24 24 24 (rwc x (.slice a x.es.length cap)).toArray #[.int .i64 0, .int .i64 0, .int .i64 0, .int .i64 0, .int .i64 0, .int .i64 0, .int .i64 0, .bool false, .slice none 0 0, .string ⟨#[]⟩] (rwc ⟨x.kind, x.src, x.term, 0, 0, 0, 0, false, [], []⟩ (.slice none 0 0)).toArray
    exact ⟨B.1, B.2.1, B.2.2, ((HR.out.alloc _).alloc _).alloc _, (((Step.refl [] w).alloc _).alloc _).alloc _, rfl⟩
  rw [← hV, ← hb]
  clear hV hb
  have ra := H1.out.1.rw
  have rl := H1.out.1.lt
  go_upto_region 3 with fail
  clear ra rl
  have N : Hid (Blk V (b + 1 + 1) 24 (rwc ⟨x.kind, x.src, x.term, 0, 0, 0, 0, false, [], []⟩ (.slice none 0 0)).toArray ∧ Blk V (b + 1) 24 #[.int .i64 0, .int .i64 0, .int .i64 0, .int .i64 0, .int .i64 0, .int .i64 0, .int .i64 0, .bool false, .slice none 0 0, .string ⟨#[]⟩] ∧ Step [] [] w V) := ⟨H1.out.2.2.1, H1.out.2.1, H1.out.2.2.2.2.1⟩
  have oc := N.out.1.rw
  have ol := N.out.1.lt
  have zl := N.out.2.1.lt
  have zc := fun j => N.out.2.1.cell j
  have zf := fun j => N.out.2.1.frozen j
  have zc0 := zc 0
  have zc1 := zc 1
  have zc2 := zc 2
  have zc3 := zc 3
  have zc4 := zc 4
  have zc5 := zc 5
  have zc6 := zc 6
  have zc7 := zc 7
  have zc8 := zc 8
  have zc9 := zc 9
  have zf0 := zf 0
  have zf1 := zf 1
  have zf2 := zf 2
  have zf3 := zf 3
  have zf4 := zf 4
  have zf5 := zf 5
  have zf6 := zf 6
  have zf7 := zf 7
  have zf8 := zf 8
  have zf9 := zf 9
  clear zc zf
  simp only [List.getElem?_toArray, List.getElem?_cons_zero, List.getElem?_cons_succ] at zc0 zc1 zc2 zc3 zc4 zc5 zc6 zc7 zc8 zc9
  go_wp2_with fail
  change bodyPost _ _ _ _ _ (putRw V (b + 1) rwZ (.slice none 0 0))
  have P := (N.out.2.1.putRw rwZ (.slice none 0 0)).rw
  have ss := step_putRw V (b + 1) rwZ (.slice none 0 0)
  obtain ⟨U, hU⟩ : ∃ U, U = putRw V (b + 1) rwZ (.slice none 0 0) := ⟨_, rfl⟩
  rw [← hU] at P ss ⊢
  clear hU
  have hbw := H1.out.2.2.2.2.2
  have hcl : cleanL x = rwZ := by have hq := HC0.out; simp [isKind] at hq; unfold cleanL; rw [if_neg (by omega), if_neg (by omega), if_neg (by omega), if_neg (by omega), if_neg (by omega)]
  refine bodyPost_ret (v := .tuple #[rwV rwZ (.slice none 0 0), .bool false]) ?_ rfl ⟨none, 0, ?_, ?_, N.out.2.2.out1 ss (by omega)⟩
  · simp [results, Try.results10, go_sem, P]
  · rw [hcl, HIK.out]; rfl
  · rw [hcl]; exact (Row.none _ 3).rd

theorem refClean_any (x : Rw) (a : Option Addr) (cap : Nat) (w : World) (hr : Rd w 3 a x.es.length (entcs x.es)) (hl : x.es.length ≤ 4398046511104) : Calls Try.prog 10 #[rwV x (.slice a x.es.length cap)] w (CleanPost x w) := by
  cases hk : isKind x.kind with
  | false => exact clean0_any x a cap w hk hr
  | true =>
    rcases kind_cases hk with h | h | h | h | h
    · exact clean1_any x a cap w h hr
    · exact clean2_any x a cap w h hr
    · exact clean3_any x a cap w h hr hl
    · exact clean4_any x a cap w h hr
    · exact clean5_any x a cap w h hr
end Go.Proofs.Ytihklmomipidaaa
