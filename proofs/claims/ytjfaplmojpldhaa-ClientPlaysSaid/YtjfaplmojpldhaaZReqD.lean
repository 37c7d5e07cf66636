/-
 A request's flat form. Condition: at most 2^40 compares and acts.
-/
import Derived.Test.YtjfaplmojpldhaaZGA
import Derived.Test.YtjfaplmojpldhaaZReqC
namespace Go.Proofs.Ytjfaplmojpldhaa
open Go.RowKit
set_option linter.unusedSimpArgs false
set_option linter.unusedVariables false
set_option maxRecDepth 100000

theorem Try.sAdm : StructOf Try.prog 139 11 := ⟨by kernel_rfl, _, Try.underlying139⟩
theorem Try.sCmd : StructOf Try.prog 44 18 := ⟨by kernel_rfl, _, Try.underlying44⟩
theorem rta11 (u : Value) (W : World) : (Instr.typeAssert (.iface 130 u) 97 130 true).run Try.prog W = .ok (.tuple #[u, .bool true]) W := by kernel_rfl
theorem rta21 (u : Value) (W : World) : (Instr.typeAssert (.iface 134 u) 97 130 true).run Try.prog W = .ok (.tuple #[.agg #[.string ⟨#[]⟩, .string ⟨#[]⟩], .bool false]) W := by kernel_rfl
theorem rta22 (u : Value) (W : World) : (Instr.typeAssert (.iface 134 u) 97 134 true).run Try.prog W = .ok (.tuple #[u, .bool true]) W := by kernel_rfl
theorem rta31 (u : Value) (W : World) : (Instr.typeAssert (.iface 136 u) 97 130 true).run Try.prog W = .ok (.tuple #[.agg #[.string ⟨#[]⟩, .string ⟨#[]⟩], .bool false]) W := by kernel_rfl
theorem rta32 (u : Value) (W : World) : (Instr.typeAssert (.iface 136 u) 97 134 true).run Try.prog W = .ok (.tuple #[.agg #[.slice none 0 0, .slice none 0 0, .slice none 0 0], .bool false]) W := by kernel_rfl
theorem rta33 (u : Value) (W : World) : (Instr.typeAssert (.iface 136 u) 97 136 true).run Try.prog W = .ok (.tuple #[u, .bool true]) W := by kernel_rfl
theorem rta41 (u : Value) (W : World) : (Instr.typeAssert (.iface 139 u) 97 130 true).run Try.prog W = .ok (.tuple #[.agg #[.string ⟨#[]⟩, .string ⟨#[]⟩], .bool false]) W := by kernel_rfl
theorem rta42 (u : Value) (W : World) : (Instr.typeAssert (.iface 139 u) 97 134 true).run Try.prog W = .ok (.tuple #[.agg #[.slice none 0 0, .slice none 0 0, .slice none 0 0], .bool false]) W := by kernel_rfl
theorem rta43 (u : Value) (W : World) : (Instr.typeAssert (.iface 139 u) 97 136 true).run Try.prog W = .ok (.tuple #[.agg #[.int .i64 0], .bool false]) W := by kernel_rfl
theorem rta44 (u : Value) (W : World) : (Instr.typeAssert (.iface 139 u) 97 139 true).run Try.prog W = .ok (.tuple #[u, .bool true]) W := by kernel_rfl
theorem kind1_any (s1 s2 s3 : Value) (w : World) : Calls Try.prog 78 #[.agg #[s1, s2]] w fun e w' => e = .returned (.int .i64 1) ∧ Step [] [] w w' := by
 go_enter Try.func78, Try.ntmps78
 go_wp2_with fail
 exact bodyPost_ret (results_tmp rfl _ _ _) rfl ⟨rfl, by first | exact Step.refl _ _ | exact (Step.refl [] w).alloc _⟩
theorem kind2_any (s1 s2 s3 : Value) (w : World) : Calls Try.prog 79 #[.agg #[s1, s2, s3]] w fun e w' => e = .returned (.int .i64 2) ∧ Step [] [] w w' := by
 go_enter Try.func79, Try.ntmps79
 go_wp2_with fail
 exact bodyPost_ret (results_tmp rfl _ _ _) rfl ⟨rfl, by first | exact Step.refl _ _ | exact (Step.refl [] w).alloc _⟩
theorem kind3_any (s1 s2 s3 : Value) (w : World) : Calls Try.prog 80 #[.agg #[s1]] w fun e w' => e = .returned (.int .i64 3) ∧ Step [] [] w w' := by
 go_enter Try.func80, Try.ntmps80
 go_wp2_with fail
 exact bodyPost_ret (results_tmp rfl _ _ _) rfl ⟨rfl, by first | exact Step.refl _ _ | exact (Step.refl [] w).alloc _⟩

def FlatP (y : Cm) (w : World) (e : Ending) (w' : World) : Prop := ∃ a1 c1 a2 c2 a3 c3, e = .returned (cmV y (.slice a1 y.ifs.length c1) (.slice a2 y.thens.length c2) (.slice a3 y.elses.length c3)) ∧ RdC w' y a1 a2 a3 ∧ Step [] [] w w'

set_option maxHeartbeats 8000000 in
theorem flat1_any (x : Cm) (w : World) (hk : x.kind = 1) : Calls Try.prog 58 #[rqV x (.iface 130 (.agg #[Str x.name, Str x.word]))] w fun e w' => e = .returned (cmV (cleanC x) (.slice none 0 0) (.slice none 0 0) (.slice none 0 0)) ∧ Step [] [] w w' := by
 have HK := Lib.hid hk
 have hkx : x.kind = 1 := hk
 clear hk
 have HKX := Lib.hid hkx
 clear hkx
 have q1 := rta11
 have A0 := blk3q w 99 44 44 #[.int .i64 x.client, .int .i64 x.seq, .string ⟨x.token.toArray⟩, .iface 130 (.agg #[.string ⟨x.name.toArray⟩, .string ⟨x.word.toArray⟩])] #[.int .i64 0, .int .i64 0, .string ⟨#[]⟩, .int .i64 0, .string ⟨#[]⟩, .string ⟨#[]⟩, .string ⟨#[]⟩, .string ⟨#[]⟩, .int .i64 0, .int .i64 0, .string ⟨#[]⟩, .string ⟨#[]⟩, .bool false, .bool false, .int .i64 0, .slice none 0 0, .slice none 0 0, .slice none 0 0] #[.int .i64 0, .int .i64 0, .string ⟨#[]⟩, .int .i64 0, .string ⟨#[]⟩, .string ⟨#[]⟩, .string ⟨#[]⟩, .string ⟨#[]⟩, .int .i64 0, .int .i64 0, .string ⟨#[]⟩, .string ⟨#[]⟩, .bool false, .bool false, .int .i64 0, .slice none 0 0, .slice none 0 0, .slice none 0 0]
 have A1 := (((Step.refl [] w).alloc (.cells #[.int .i64 x.client, .int .i64 x.seq, .string ⟨x.token.toArray⟩, .iface 130 (.agg #[.string ⟨x.name.toArray⟩, .string ⟨x.word.toArray⟩])] 99)).alloc (.cells #[.int .i64 0, .int .i64 0, .string ⟨#[]⟩, .int .i64 0, .string ⟨#[]⟩, .string ⟨#[]⟩, .string ⟨#[]⟩, .string ⟨#[]⟩, .int .i64 0, .int .i64 0, .string ⟨#[]⟩, .string ⟨#[]⟩, .bool false, .bool false, .int .i64 0, .slice none 0 0, .slice none 0 0, .slice none 0 0] 44)).alloc (.cells #[.int .i64 0, .int .i64 0, .string ⟨#[]⟩, .int .i64 0, .string ⟨#[]⟩, .string ⟨#[]⟩, .string ⟨#[]⟩, .string ⟨#[]⟩, .int .i64 0, .int .i64 0, .string ⟨#[]⟩, .string ⟨#[]⟩, .bool false, .bool false, .int .i64 0, .slice none 0 0, .slice none 0 0, .slice none 0 0] 44)
 have HA := Lib.hid (And.intro A0 A1)
 clear A0 A1
 go_enter Try.func58, Try.ntmps58
 go_upto_region 2 with (refine wpList_storeRow (T := 44) (b := w.heap.size + 1 + 1) (T' := 44) (cs := #[.int .i64 0, .int .i64 0, .string ⟨#[]⟩, .int .i64 0, .string ⟨#[]⟩, .string ⟨#[]⟩, .string ⟨#[]⟩, .string ⟨#[]⟩, .int .i64 0, .int .i64 0, .string ⟨#[]⟩, .string ⟨#[]⟩, .bool false, .bool false, .int .i64 0, .slice none 0 0, .slice none 0 0, .slice none 0 0]) (vs := #[.int .i64 x.client, .int .i64 x.seq, .string ⟨x.token.toArray⟩, .int .i64 0, .string ⟨#[]⟩, .string ⟨#[]⟩, .string ⟨#[]⟩, .string ⟨#[]⟩, .int .i64 0, .int .i64 0, .string ⟨#[]⟩, .string ⟨#[]⟩, .bool false, .bool false, .int .i64 0, .slice none 0 0, .slice none 0 0, .slice none 0 0]) rfl (.tmp 3) (.tmp 15) rfl rfl rfl Try.sCmd HA.out.1.2.2 rfl (by simp [Value.oneCell']) ?_; intro V vb ks)
 have H0 : Hid (Blk V w.heap.size 99 #[.int .i64 x.client, .int .i64 x.seq, .string ⟨x.token.toArray⟩, .iface 130 (.agg #[.string ⟨x.name.toArray⟩, .string ⟨x.word.toArray⟩])] ∧ Blk V (w.heap.size + 1) 44 #[.int .i64 0, .int .i64 0, .string ⟨#[]⟩, .int .i64 0, .string ⟨#[]⟩, .string ⟨#[]⟩, .string ⟨#[]⟩, .string ⟨#[]⟩, .int .i64 0, .int .i64 0, .string ⟨#[]⟩, .string ⟨#[]⟩, .bool false, .bool false, .int .i64 0, .slice none 0 0, .slice none 0 0, .slice none 0 0] ∧ Blk V (w.heap.size + 1 + 1) 44 #[.int .i64 x.client, .int .i64 x.seq, .string ⟨x.token.toArray⟩, .int .i64 0, .string ⟨#[]⟩, .string ⟨#[]⟩, .string ⟨#[]⟩, .string ⟨#[]⟩, .int .i64 0, .int .i64 0, .string ⟨#[]⟩, .string ⟨#[]⟩, .bool false, .bool false, .int .i64 0, .slice none 0 0, .slice none 0 0, .slice none 0 0] ∧ Step [] [] w V) := ⟨HA.out.1.1.step ks (by simp; omega), HA.out.1.2.1.step ks (by simp), vb, HA.out.2.out1' ks (by simp; omega)⟩
 clear HA vb ks
 obtain ⟨b, hb⟩ : ∃ b, b = w.heap.size := ⟨_, rfl⟩
 have H1 : Hid (Blk V b 99 #[.int .i64 x.client, .int .i64 x.seq, .string ⟨x.token.toArray⟩, .iface 130 (.agg #[.string ⟨x.name.toArray⟩, .string ⟨x.word.toArray⟩])] ∧ Blk V (b + 1) 44 #[.int .i64 0, .int .i64 0, .string ⟨#[]⟩, .int .i64 0, .string ⟨#[]⟩, .string ⟨#[]⟩, .string ⟨#[]⟩, .string ⟨#[]⟩, .int .i64 0, .int .i64 0, .string ⟨#[]⟩, .string ⟨#[]⟩, .bool false, .bool false, .int .i64 0, .slice none 0 0, .slice none 0 0, .slice none 0 0] ∧ Blk V (b + 1 + 1) 44 #[.int .i64 x.client, .int .i64 x.seq, .string ⟨x.token.toArray⟩, .int .i64 0, .string ⟨#[]⟩, .string ⟨#[]⟩, .string ⟨#[]⟩, .string ⟨#[]⟩, .int .i64 0, .int .i64 0, .string ⟨#[]⟩, .string ⟨#[]⟩, .bool false, .bool false, .int .i64 0, .slice none 0 0, .slice none 0 0, .slice none 0 0] ∧ Step [] [] w V ∧ b = w.heap.size) := by
  rw [hb]
  exact ⟨H0.out.1, H0.out.2.1, H0.out.2.2.1, H0.out.2.2.2, rfl⟩
 rw [← hb]
 clear hb H0
 have HB := Lib.hid H1.out.2.2.2.2
 have cc := (H1.out.1).cell
 have c0 := cc 0
 have c1 := cc 1
 have c2 := cc 2
 have c3 := cc 3
 clear cc
 simp only [List.getElem?_toArray, List.getElem?_cons_zero, List.getElem?_cons_succ] at c0 c1 c2 c3
 have cl := (H1.out.1).lt
 go_upto_region 7 with fail
 clear q1
 clear c0 c1 c2 c3 cl
 obtain ⟨b4, hb4⟩ : ∃ b4, b4 = V.heap.size := ⟨_, rfl⟩
 obtain ⟨V2, hV2⟩ : ∃ V2, V2 = V.alloc (.cells #[.string ⟨x.name.toArray⟩, .string ⟨x.word.toArray⟩] 130) := ⟨_, rfl⟩
 have H2 : Hid (Blk V2 b4 130 #[.string ⟨x.name.toArray⟩, .string ⟨x.word.toArray⟩] ∧ Blk V2 (b + 1) 44 #[.int .i64 0, .int .i64 0, .string ⟨#[]⟩, .int .i64 0, .string ⟨#[]⟩, .string ⟨#[]⟩, .string ⟨#[]⟩, .string ⟨#[]⟩, .int .i64 0, .int .i64 0, .string ⟨#[]⟩, .string ⟨#[]⟩, .bool false, .bool false, .int .i64 0, .slice none 0 0, .slice none 0 0, .slice none 0 0] ∧ Blk V2 (b + 1 + 1) 44 #[.int .i64 x.client, .int .i64 x.seq, .string ⟨x.token.toArray⟩, .int .i64 0, .string ⟨#[]⟩, .string ⟨#[]⟩, .string ⟨#[]⟩, .string ⟨#[]⟩, .int .i64 0, .int .i64 0, .string ⟨#[]⟩, .string ⟨#[]⟩, .bool false, .bool false, .int .i64 0, .slice none 0 0, .slice none 0 0, .slice none 0 0] ∧ Step [] [] w V2 ∧ b + 1 + 1 < b4) := by
  rw [hV2, hb4]
  exact ⟨Blk.new _ _ _, H1.out.2.1.alloc _, H1.out.2.2.1.alloc _, H1.out.2.2.2.1.alloc _, H1.out.2.2.1.lt⟩
 rw [← hV2, ← hb4]
 clear hV2 hb4
 refine wp_region_held_drew (S := fun V => Hid (Blk V b4 130 #[.string ⟨x.name.toArray⟩, .string ⟨x.word.toArray⟩])) (by kernel_rfl) (Lib.hid H2.out.1.drew) (fun hHeld => ?_)
 refine wpAnyH_take (i := 0) (v := ?_) rfl (by kernel_rfl) (by kernel_rfl) (by kernel_rfl) (fun _ _ _ h => h) (Or.inl ⟨by rfl, ?_⟩) hHeld ?_
 rotate_left
 ·intro w hSw1
  have tc := hSw1.out.cell
  have t0 := tc 0
  have t1 := tc 1
  clear tc
  simp only [List.getElem?_toArray, List.getElem?_cons_zero, List.getElem?_cons_succ] at t0 t1
  have tl := hSw1.out.lt
  go_simp
  try (with_reducible rfl)
 try simp only [Act.put, LsA, LsB, LsC, LsD, LsE, LsF]
 refine wpAnyH_take (i := 2) (v := ?_) rfl (by kernel_rfl) (by kernel_rfl) (by kernel_rfl) (fun _ _ _ h => h) (Or.inl ⟨by rfl, ?_⟩) hHeld ?_
 rotate_left
 ·intro w hSw1
  try dsimp only at hSw1
  go_simp
  try (with_reducible rfl)
 try simp only [Act.put, LsA, LsB, LsC, LsD, LsE, LsF]
 refine wpAnyH_take (i := 3) (v := ?_) rfl (by kernel_rfl) (by kernel_rfl) (by kernel_rfl) (fun _ _ _ h => h) (Or.inl ⟨by rfl, ?_⟩) hHeld ?_
 rotate_left
 ·intro w hSw1
  have tc := hSw1.out.cell
  have t0 := tc 0
  have t1 := tc 1
  clear tc
  simp only [List.getElem?_toArray, List.getElem?_cons_zero, List.getElem?_cons_succ] at t0 t1
  have tl := hSw1.out.lt
  go_simp
  try (with_reducible rfl)
 try simp only [Act.put, LsA, LsB, LsC, LsD, LsE, LsF]
 refine wpAnyH_take (i := 4) (v := ?_) rfl (by kernel_rfl) (by kernel_rfl) (by kernel_rfl) (fun _ _ _ h => h) (Or.inl ⟨by rfl, ?_⟩) hHeld ?_
 rotate_left
 ·intro w hSw1
  try dsimp only at hSw1
  go_simp
  try (with_reducible rfl)
 try simp only [Act.put, LsA, LsB, LsC, LsD, LsE, LsF]
 refine wpAnyH_take (i := 5) (v := ?_) rfl (by kernel_rfl) (by kernel_rfl) (by kernel_rfl) (fun _ _ _ h => h) (Or.inl ⟨by rfl, ?_⟩) hHeld ?_
 rotate_left
 ·intro w hSw1
  have tc := hSw1.out.cell
  have t0 := tc 0
  have t1 := tc 1
  clear tc
  simp only [List.getElem?_toArray, List.getElem?_cons_zero, List.getElem?_cons_succ] at t0 t1
  have tl := hSw1.out.lt
  go_simp
  try (with_reducible rfl)
 try simp only [Act.put, LsA, LsB, LsC, LsD, LsE, LsF]
 refine wpAnyH_ready (rs := [1]) (by kernel_rfl) (by simp) ?_
 refine AllReadyH.cons rfl (fun K hK => ?_) AllReadyH.nil
 go_simp
 refine (kind1_any _ _ .nilIface _).mono ?_; rintro e X1 ⟨rfl, k1⟩; have G1 : Hid (Blk X1 b4 130 #[.string ⟨x.name.toArray⟩, .string ⟨x.word.toArray⟩] ∧ Blk X1 (b + 1) 44 #[.int .i64 0, .int .i64 0, .string ⟨#[]⟩, .int .i64 0, .string ⟨#[]⟩, .string ⟨#[]⟩, .string ⟨#[]⟩, .string ⟨#[]⟩, .int .i64 0, .int .i64 0, .string ⟨#[]⟩, .string ⟨#[]⟩, .bool false, .bool false, .int .i64 0, .slice none 0 0, .slice none 0 0, .slice none 0 0] ∧ Blk X1 (b + 1 + 1) 44 #[.int .i64 x.client, .int .i64 x.seq, .string ⟨x.token.toArray⟩, .int .i64 0, .string ⟨#[]⟩, .string ⟨#[]⟩, .string ⟨#[]⟩, .string ⟨#[]⟩, .int .i64 0, .int .i64 0, .string ⟨#[]⟩, .string ⟨#[]⟩, .bool false, .bool false, .int .i64 0, .slice none 0 0, .slice none 0 0, .slice none 0 0] ∧ Step [] [] w X1) := ⟨hHeld.out.step k1 (by simp), H2.out.2.1.drew.step k1 (by simp), H2.out.2.2.1.drew.step k1 (by simp), H2.out.2.2.2.1.drew.trans k1⟩; clear k1; have rc := (G1.out.2.2.1).cell; have r0 := rc 0; have r1 := rc 1; have r2 := rc 2; have r3 := rc 3; have r4 := rc 4; have r5 := rc 5; have r6 := rc 6; have r7 := rc 7; have r8 := rc 8; have r9 := rc 9; have r10 := rc 10; have r11 := rc 11; have r12 := rc 12; have r13 := rc 13; have r14 := rc 14; have r15 := rc 15; have r16 := rc 16; have r17 := rc 17; clear rc; simp only [List.getElem?_toArray, List.getElem?_cons_zero, List.getElem?_cons_succ] at r0 r1 r2 r3 r4 r5 r6 r7 r8 r9 r10 r11 r12 r13 r14 r15 r16 r17; have rl := (G1.out.2.2.1).lt; have rfz := (G1.out.2.2.1).frozen; have rf0 := rfz 0; have rf1 := rfz 1; have rf2 := rfz 2; have rf3 := rfz 3; have rf4 := rfz 4; have rf5 := rfz 5; have rf6 := rfz 6; have rf7 := rfz 7; have rf8 := rfz 8; have rf9 := rfz 9; have rf10 := rfz 10; have rf11 := rfz 11; have rf12 := rfz 12; have rf13 := rfz 13; have rf14 := rfz 14; have rf15 := rfz 15; have rf16 := rfz 16; have rf17 := rfz 17; clear rfz
 go_wp2_with fail
 refine hK.out _ _ (Lib.hid G1.out.1) (fun hHeld2 => ?_)
 clear hK K hHeld
 try simp only [Act.put, LsA, LsB, LsC, LsD, LsE, LsF]
 refine wpAnyH_take (i := 6) (v := ?_) rfl (by kernel_rfl) (by kernel_rfl) (by kernel_rfl) (fun _ _ _ h => h) (Or.inl ⟨by rfl, ?_⟩) hHeld2 ?_
 rotate_left
 ·intro w hSw1
  try dsimp only at hSw1
  go_simp
  try (with_reducible rfl)
 try simp only [Act.put, LsA, LsB, LsC, LsD, LsE, LsF]
 refine wpAnyH_ready (rs := [7]) (by kernel_rfl) (by simp) ?_
 refine AllReadyH.cons rfl (fun K hK => ?_) AllReadyH.nil
 go_simp
 skip
 go_wp2_with fail
 refine hK.out _ _ (Lib.hid (Blk.far (p := ⟨b + 1 + 1, 3, none⟩) hHeld2.out (by simp; have := H2.out.2.2.2.2; omega) _)) (fun hHeld3 => ?_)
 clear hK K hHeld2
 try simp only [Act.put, LsA, LsB, LsC, LsD, LsE, LsF]
 refine wpAnyH_take (i := 8) (v := ?_) rfl (by kernel_rfl) (by kernel_rfl) (by kernel_rfl) (fun _ _ _ h => h) (Or.inl ⟨by rfl, ?_⟩) hHeld3 ?_
 rotate_left
 ·intro w hSw1
  try dsimp only at hSw1
  go_simp
  try (with_reducible rfl)
 try simp only [Act.put, LsA, LsB, LsC, LsD, LsE, LsF]
 refine wpAnyH_ready (rs := [9]) (by kernel_rfl) (by simp) ?_
 refine AllReadyH.cons rfl (fun K hK => ?_) AllReadyH.nil
 go_simp
 skip
 go_wp2_with fail
 refine hK.out _ _ (Lib.hid (Blk.far (p := ⟨b + 1 + 1, 4, none⟩) hHeld3.out (by simp; have := H2.out.2.2.2.2; omega) _)) (fun hHeld4 => ?_)
 clear hK K hHeld3
 try simp only [Act.put, LsA, LsB, LsC, LsD, LsE, LsF]
 refine wpAnyH_take (i := 10) (v := ?_) rfl (by kernel_rfl) (by kernel_rfl) (by kernel_rfl) (fun _ _ _ h => h) (Or.inl ⟨by rfl, ?_⟩) hHeld4 ?_
 rotate_left
 ·intro w hSw1
  try dsimp only at hSw1
  go_simp
  try (with_reducible rfl)
 try simp only [Act.put, LsA, LsB, LsC, LsD, LsE, LsF]
 refine wpAnyH_ready (rs := [11]) (by kernel_rfl) (by simp) ?_
 refine AllReadyH.cons rfl (fun K hK => ?_) AllReadyH.nil
 go_simp
 skip
 go_wp2_with fail
 refine hK.out _ _ (Lib.hid (Blk.far (p := ⟨b + 1 + 1, 6, none⟩) hHeld4.out (by simp; have := H2.out.2.2.2.2; omega) _)) (fun hHeld5 => ?_)
 clear hK K hHeld4
 try simp only [Act.put, LsA, LsB, LsC, LsD, LsE, LsF]
 refine wpAnyH_done (by kernel_rfl) ?_ _
 go_upto_region 20 with fail
 clear r0 r1 r2 r3 r4 r5 r6 r7 r8 r9 r10 r11 r12 r13 r14 r15 r16 r17 rl rf0 rf1 rf2 rf3 rf4 rf5 rf6 rf7 rf8 rf9 rf10 rf11 rf12 rf13 rf14 rf15 rf16 rf17
 obtain ⟨W, hW⟩ : ∃ W, W = (((X1.setCell ⟨b + 1 + 1, 3, none⟩ (.int .i64 1)).setCell ⟨b + 1 + 1, 4, none⟩ (.string ⟨x.name.toArray⟩)).setCell ⟨b + 1 + 1, 6, none⟩ (.string ⟨x.word.toArray⟩)) := ⟨_, rfl⟩
 have ss0 : Step [b + 1 + 1] [b + 1 + 1] X1 W := by
  rw [hW]
  iterate 3 refine Step.setCell ?_ (.inl (by simp)) _
  exact Step.refl _ _
 have N : Hid (Blk W (b + 1 + 1) 44 #[.int .i64 x.client, .int .i64 x.seq, .string ⟨x.token.toArray⟩, .int .i64 1, .string ⟨x.name.toArray⟩, .string ⟨#[]⟩, .string ⟨x.word.toArray⟩, .string ⟨#[]⟩, .int .i64 0, .int .i64 0, .string ⟨#[]⟩, .string ⟨#[]⟩, .bool false, .bool false, .int .i64 0, .slice none 0 0, .slice none 0 0, .slice none 0 0] ∧ Blk W (b + 1) 44 #[.int .i64 0, .int .i64 0, .string ⟨#[]⟩, .int .i64 0, .string ⟨#[]⟩, .string ⟨#[]⟩, .string ⟨#[]⟩, .string ⟨#[]⟩, .int .i64 0, .int .i64 0, .string ⟨#[]⟩, .string ⟨#[]⟩, .bool false, .bool false, .int .i64 0, .slice none 0 0, .slice none 0 0, .slice none 0 0] ∧ Step [] [] w W) := ⟨by rw [hW]; have hq := (((G1.out.2.2.1.set 3 (.int .i64 1)).set 4 (.string ⟨x.name.toArray⟩)).set 6 (.string ⟨x.word.toArray⟩)); simpa using hq, G1.out.2.1.step ss0 (by simp), G1.out.2.2.2.out1' ss0 (by have := HB.out; simp; omega)⟩
 have HSS := Lib.hid ss0
 rw [← hW]
 clear hW ss0
 go_wp2_with (first | (refine wpList_loadRow (T := 44) (b := b + 1 + 1) (T' := 44) (cs := #[.int .i64 x.client, .int .i64 x.seq, .string ⟨x.token.toArray⟩, .int .i64 1, .string ⟨x.name.toArray⟩, .string ⟨#[]⟩, .string ⟨x.word.toArray⟩, .string ⟨#[]⟩, .int .i64 0, .int .i64 0, .string ⟨#[]⟩, .string ⟨#[]⟩, .bool false, .bool false, .int .i64 0, .slice none 0 0, .slice none 0 0, .slice none 0 0]) rfl (.tmp 3) rfl rfl Try.sCmd N.out.1 ?_) | (refine wpList_storeRow (T := 44) (b := b + 1) (T' := 44) (cs := #[.int .i64 0, .int .i64 0, .string ⟨#[]⟩, .int .i64 0, .string ⟨#[]⟩, .string ⟨#[]⟩, .string ⟨#[]⟩, .string ⟨#[]⟩, .int .i64 0, .int .i64 0, .string ⟨#[]⟩, .string ⟨#[]⟩, .bool false, .bool false, .int .i64 0, .slice none 0 0, .slice none 0 0, .slice none 0 0]) (vs := #[.int .i64 x.client, .int .i64 x.seq, .string ⟨x.token.toArray⟩, .int .i64 1, .string ⟨x.name.toArray⟩, .string ⟨#[]⟩, .string ⟨x.word.toArray⟩, .string ⟨#[]⟩, .int .i64 0, .int .i64 0, .string ⟨#[]⟩, .string ⟨#[]⟩, .bool false, .bool false, .int .i64 0, .slice none 0 0, .slice none 0 0, .slice none 0 0]) rfl (.tmp 2) (.tmp 92) rfl rfl rfl Try.sCmd N.out.2.1 rfl (by simp [Value.oneCell']) ?_; intro U Q ss))
 have so := N.out.2.2.out1' ss (by have := HB.out; simp; omega)
 refine bodyPost_ret (v := .agg #[.int .i64 x.client, .int .i64 x.seq, .string ⟨x.token.toArray⟩, .int .i64 1, .string ⟨x.name.toArray⟩, .string ⟨#[]⟩, .string ⟨x.word.toArray⟩, .string ⟨#[]⟩, .int .i64 0, .int .i64 0, .string ⟨#[]⟩, .string ⟨#[]⟩, .bool false, .bool false, .int .i64 0, .slice none 0 0, .slice none 0 0, .slice none 0 0]) ?_ rfl ⟨by simp [cleanC, onlyC, isK, hasN, hasO, hasW, hasS, hasQ, hasP, hasG, hasR, HKX.out], so⟩
 exact res_row rfl _ rfl Try.sCmd Q

set_option maxHeartbeats 8000000 in
theorem flat3_any (x : Cm) (w : World) (hk : x.kind = 3) : Calls Try.prog 58 #[rqV x (.iface 136 (.agg #[.int .i64 x.rev]))] w fun e w' => e = .returned (cmV (cleanC x) (.slice none 0 0) (.slice none 0 0) (.slice none 0 0)) ∧ Step [] [] w w' := by
 have HK := Lib.hid hk
 have hkx : x.kind = 3 := hk
 clear hk
 have HKX := Lib.hid hkx
 clear hkx
 have q1 := rta31
 have q2 := rta32
 have q3 := rta33
 have A0 := blk3q w 99 44 44 #[.int .i64 x.client, .int .i64 x.seq, .string ⟨x.token.toArray⟩, .iface 136 (.agg #[.int .i64 x.rev])] #[.int .i64 0, .int .i64 0, .string ⟨#[]⟩, .int .i64 0, .string ⟨#[]⟩, .string ⟨#[]⟩, .string ⟨#[]⟩, .string ⟨#[]⟩, .int .i64 0, .int .i64 0, .string ⟨#[]⟩, .string ⟨#[]⟩, .bool false, .bool false, .int .i64 0, .slice none 0 0, .slice none 0 0, .slice none 0 0] #[.int .i64 0, .int .i64 0, .string ⟨#[]⟩, .int .i64 0, .string ⟨#[]⟩, .string ⟨#[]⟩, .string ⟨#[]⟩, .string ⟨#[]⟩, .int .i64 0, .int .i64 0, .string ⟨#[]⟩, .string ⟨#[]⟩, .bool false, .bool false, .int .i64 0, .slice none 0 0, .slice none 0 0, .slice none 0 0]
 have A1 := (((Step.refl [] w).alloc (.cells #[.int .i64 x.client, .int .i64 x.seq, .string ⟨x.token.toArray⟩, .iface 136 (.agg #[.int .i64 x.rev])] 99)).alloc (.cells #[.int .i64 0, .int .i64 0, .string ⟨#[]⟩, .int .i64 0, .string ⟨#[]⟩, .string ⟨#[]⟩, .string ⟨#[]⟩, .string ⟨#[]⟩, .int .i64 0, .int .i64 0, .string ⟨#[]⟩, .string ⟨#[]⟩, .bool false, .bool false, .int .i64 0, .slice none 0 0, .slice none 0 0, .slice none 0 0] 44)).alloc (.cells #[.int .i64 0, .int .i64 0, .string ⟨#[]⟩, .int .i64 0, .string ⟨#[]⟩, .string ⟨#[]⟩, .string ⟨#[]⟩, .string ⟨#[]⟩, .int .i64 0, .int .i64 0, .string ⟨#[]⟩, .string ⟨#[]⟩, .bool false, .bool false, .int .i64 0, .slice none 0 0, .slice none 0 0, .slice none 0 0] 44)
 have HA := Lib.hid (And.intro A0 A1)
 clear A0 A1
 go_enter Try.func58, Try.ntmps58
 go_upto_region 2 with (refine wpList_storeRow (T := 44) (b := w.heap.size + 1 + 1) (T' := 44) (cs := #[.int .i64 0, .int .i64 0, .string ⟨#[]⟩, .int .i64 0, .string ⟨#[]⟩, .string ⟨#[]⟩, .string ⟨#[]⟩, .string ⟨#[]⟩, .int .i64 0, .int .i64 0, .string ⟨#[]⟩, .string ⟨#[]⟩, .bool false, .bool false, .int .i64 0, .slice none 0 0, .slice none 0 0, .slice none 0 0]) (vs := #[.int .i64 x.client, .int .i64 x.seq, .string ⟨x.token.toArray⟩, .int .i64 0, .string ⟨#[]⟩, .string ⟨#[]⟩, .string ⟨#[]⟩, .string ⟨#[]⟩, .int .i64 0, .int .i64 0, .string ⟨#[]⟩, .string ⟨#[]⟩, .bool false, .bool false, .int .i64 0, .slice none 0 0, .slice none 0 0, .slice none 0 0]) rfl (.tmp 3) (.tmp 15) rfl rfl rfl Try.sCmd HA.out.1.2.2 rfl (by simp [Value.oneCell']) ?_; intro V vb ks)
 have H0 : Hid (Blk V w.heap.size 99 #[.int .i64 x.client, .int .i64 x.seq, .string ⟨x.token.toArray⟩, .iface 136 (.agg #[.int .i64 x.rev])] ∧ Blk V (w.heap.size + 1) 44 #[.int .i64 0, .int .i64 0, .string ⟨#[]⟩, .int .i64 0, .string ⟨#[]⟩, .string ⟨#[]⟩, .string ⟨#[]⟩, .string ⟨#[]⟩, .int .i64 0, .int .i64 0, .string ⟨#[]⟩, .string ⟨#[]⟩, .bool false, .bool false, .int .i64 0, .slice none 0 0, .slice none 0 0, .slice none 0 0] ∧ Blk V (w.heap.size + 1 + 1) 44 #[.int .i64 x.client, .int .i64 x.seq, .string ⟨x.token.toArray⟩, .int .i64 0, .string ⟨#[]⟩, .string ⟨#[]⟩, .string ⟨#[]⟩, .string ⟨#[]⟩, .int .i64 0, .int .i64 0, .string ⟨#[]⟩, .string ⟨#[]⟩, .bool false, .bool false, .int .i64 0, .slice none 0 0, .slice none 0 0, .slice none 0 0] ∧ Step [] [] w V) := ⟨HA.out.1.1.step ks (by simp; omega), HA.out.1.2.1.step ks (by simp), vb, HA.out.2.out1' ks (by simp; omega)⟩
 clear HA vb ks
 obtain ⟨b, hb⟩ : ∃ b, b = w.heap.size := ⟨_, rfl⟩
 have H1 : Hid (Blk V b 99 #[.int .i64 x.client, .int .i64 x.seq, .string ⟨x.token.toArray⟩, .iface 136 (.agg #[.int .i64 x.rev])] ∧ Blk V (b + 1) 44 #[.int .i64 0, .int .i64 0, .string ⟨#[]⟩, .int .i64 0, .string ⟨#[]⟩, .string ⟨#[]⟩, .string ⟨#[]⟩, .string ⟨#[]⟩, .int .i64 0, .int .i64 0, .string ⟨#[]⟩, .string ⟨#[]⟩, .bool false, .bool false, .int .i64 0, .slice none 0 0, .slice none 0 0, .slice none 0 0] ∧ Blk V (b + 1 + 1) 44 #[.int .i64 x.client, .int .i64 x.seq, .string ⟨x.token.toArray⟩, .int .i64 0, .string ⟨#[]⟩, .string ⟨#[]⟩, .string ⟨#[]⟩, .string ⟨#[]⟩, .int .i64 0, .int .i64 0, .string ⟨#[]⟩, .string ⟨#[]⟩, .bool false, .bool false, .int .i64 0, .slice none 0 0, .slice none 0 0, .slice none 0 0] ∧ Step [] [] w V ∧ b = w.heap.size) := by
  rw [hb]
  exact ⟨H0.out.1, H0.out.2.1, H0.out.2.2.1, H0.out.2.2.2, rfl⟩
 rw [← hb]
 clear hb H0
 have HB := Lib.hid H1.out.2.2.2.2
 have cc := (H1.out.1).cell
 have c0 := cc 0
 have c1 := cc 1
 have c2 := cc 2
 have c3 := cc 3
 clear cc
 simp only [List.getElem?_toArray, List.getElem?_cons_zero, List.getElem?_cons_succ] at c0 c1 c2 c3
 have cl := (H1.out.1).lt
 go_upto_region 13 with fail
 clear q1 q2 q3
 clear c0 c1 c2 c3 cl
 obtain ⟨b4, hb4⟩ : ∃ b4, b4 = V.heap.size := ⟨_, rfl⟩
 obtain ⟨V2, hV2⟩ : ∃ V2, V2 = V.alloc (.cells #[.int .i64 x.rev] 136) := ⟨_, rfl⟩
 have H2 : Hid (Blk V2 b4 136 #[.int .i64 x.rev] ∧ Blk V2 (b + 1) 44 #[.int .i64 0, .int .i64 0, .string ⟨#[]⟩, .int .i64 0, .string ⟨#[]⟩, .string ⟨#[]⟩, .string ⟨#[]⟩, .string ⟨#[]⟩, .int .i64 0, .int .i64 0, .string ⟨#[]⟩, .string ⟨#[]⟩, .bool false, .bool false, .int .i64 0, .slice none 0 0, .slice none 0 0, .slice none 0 0] ∧ Blk V2 (b + 1 + 1) 44 #[.int .i64 x.client, .int .i64 x.seq, .string ⟨x.token.toArray⟩, .int .i64 0, .string ⟨#[]⟩, .string ⟨#[]⟩, .string ⟨#[]⟩, .string ⟨#[]⟩, .int .i64 0, .int .i64 0, .string ⟨#[]⟩, .string ⟨#[]⟩, .bool false, .bool false, .int .i64 0, .slice none 0 0, .slice none 0 0, .slice none 0 0] ∧ Step [] [] w V2 ∧ b + 1 + 1 < b4) := by
  rw [hV2, hb4]
  exact ⟨Blk.new _ _ _, H1.out.2.1.alloc _, H1.out.2.2.1.alloc _, H1.out.2.2.2.1.alloc _, H1.out.2.2.1.lt⟩
 rw [← hV2, ← hb4]
 clear hV2 hb4
 refine wp_region_held_drew (S := fun V => Hid (Blk V b4 136 #[.int .i64 x.rev])) (by kernel_rfl) (Lib.hid H2.out.1.drew) (fun hHeld => ?_)
 refine wpAnyH_take (i := 0) (v := ?_) rfl (by kernel_rfl) (by kernel_rfl) (by kernel_rfl) (fun _ _ _ h => h) (Or.inl ⟨by rfl, ?_⟩) hHeld ?_
 rotate_left
 ·intro w hSw1
  have tc := hSw1.out.cell
  have t0 := tc 0
  clear tc
  simp only [List.getElem?_toArray, List.getElem?_cons_zero, List.getElem?_cons_succ] at t0
  have tl := hSw1.out.lt
  go_simp
  try (with_reducible rfl)
 try simp only [Act.put, LsA, LsB, LsC, LsD, LsE, LsF]
 refine wpAnyH_take (i := 2) (v := ?_) rfl (by kernel_rfl) (by kernel_rfl) (by kernel_rfl) (fun _ _ _ h => h) (Or.inl ⟨by rfl, ?_⟩) hHeld ?_
 rotate_left
 ·intro w hSw1
  try dsimp only at hSw1
  go_simp
  try (with_reducible rfl)
 try simp only [Act.put, LsA, LsB, LsC, LsD, LsE, LsF]
 refine wpAnyH_take (i := 3) (v := ?_) rfl (by kernel_rfl) (by kernel_rfl) (by kernel_rfl) (fun _ _ _ h => h) (Or.inl ⟨by rfl, ?_⟩) hHeld ?_
 rotate_left
 ·intro w hSw1
  have tc := hSw1.out.cell
  have t0 := tc 0
  clear tc
  simp only [List.getElem?_toArray, List.getElem?_cons_zero, List.getElem?_cons_succ] at t0
  have tl := hSw1.out.lt
  go_simp
  try (with_reducible rfl)
 try simp only [Act.put, LsA, LsB, LsC, LsD, LsE, LsF]
 refine wpAnyH_ready (rs := [1]) (by kernel_rfl) (by simp) ?_
 refine AllReadyH.cons rfl (fun K hK => ?_) AllReadyH.nil
 go_simp
 refine (kind3_any _ .nilIface .nilIface _).mono ?_; rintro e X1 ⟨rfl, k1⟩; have G1 : Hid (Blk X1 b4 136 #[.int .i64 x.rev] ∧ Blk X1 (b + 1) 44 #[.int .i64 0, .int .i64 0, .string ⟨#[]⟩, .int .i64 0, .string ⟨#[]⟩, .string ⟨#[]⟩, .string ⟨#[]⟩, .string ⟨#[]⟩, .int .i64 0, .int .i64 0, .string ⟨#[]⟩, .string ⟨#[]⟩, .bool false, .bool false, .int .i64 0, .slice none 0 0, .slice none 0 0, .slice none 0 0] ∧ Blk X1 (b + 1 + 1) 44 #[.int .i64 x.client, .int .i64 x.seq, .string ⟨x.token.toArray⟩, .int .i64 0, .string ⟨#[]⟩, .string ⟨#[]⟩, .string ⟨#[]⟩, .string ⟨#[]⟩, .int .i64 0, .int .i64 0, .string ⟨#[]⟩, .string ⟨#[]⟩, .bool false, .bool false, .int .i64 0, .slice none 0 0, .slice none 0 0, .slice none 0 0] ∧ Step [] [] w X1) := ⟨hHeld.out.step k1 (by simp), H2.out.2.1.drew.step k1 (by simp), H2.out.2.2.1.drew.step k1 (by simp), H2.out.2.2.2.1.drew.trans k1⟩; clear k1; have rc := (G1.out.2.2.1).cell; have r0 := rc 0; have r1 := rc 1; have r2 := rc 2; have r3 := rc 3; have r4 := rc 4; have r5 := rc 5; have r6 := rc 6; have r7 := rc 7; have r8 := rc 8; have r9 := rc 9; have r10 := rc 10; have r11 := rc 11; have r12 := rc 12; have r13 := rc 13; have r14 := rc 14; have r15 := rc 15; have r16 := rc 16; have r17 := rc 17; clear rc; simp only [List.getElem?_toArray, List.getElem?_cons_zero, List.getElem?_cons_succ] at r0 r1 r2 r3 r4 r5 r6 r7 r8 r9 r10 r11 r12 r13 r14 r15 r16 r17; have rl := (G1.out.2.2.1).lt; have rfz := (G1.out.2.2.1).frozen; have rf0 := rfz 0; have rf1 := rfz 1; have rf2 := rfz 2; have rf3 := rfz 3; have rf4 := rfz 4; have rf5 := rfz 5; have rf6 := rfz 6; have rf7 := rfz 7; have rf8 := rfz 8; have rf9 := rfz 9; have rf10 := rfz 10; have rf11 := rfz 11; have rf12 := rfz 12; have rf13 := rfz 13; have rf14 := rfz 14; have rf15 := rfz 15; have rf16 := rfz 16; have rf17 := rfz 17; clear rfz
 go_wp2_with fail
 refine hK.out _ _ (Lib.hid G1.out.1) (fun hHeld2 => ?_)
 clear hK K hHeld
 try simp only [Act.put, LsA, LsB, LsC, LsD, LsE, LsF]
 refine wpAnyH_take (i := 4) (v := ?_) rfl (by kernel_rfl) (by kernel_rfl) (by kernel_rfl) (fun _ _ _ h => h) (Or.inl ⟨by rfl, ?_⟩) hHeld2 ?_
 rotate_left
 ·intro w hSw1
  try dsimp only at hSw1
  go_simp
  try (with_reducible rfl)
 try simp only [Act.put, LsA, LsB, LsC, LsD, LsE, LsF]
 refine wpAnyH_ready (rs := [5]) (by kernel_rfl) (by simp) ?_
 refine AllReadyH.cons rfl (fun K hK => ?_) AllReadyH.nil
 go_simp
 skip
 go_wp2_with fail
 refine hK.out _ _ (Lib.hid (Blk.far (p := ⟨b + 1 + 1, 3, none⟩) hHeld2.out (by simp; have := H2.out.2.2.2.2; omega) _)) (fun hHeld3 => ?_)
 clear hK K hHeld2
 try simp only [Act.put, LsA, LsB, LsC, LsD, LsE, LsF]
 refine wpAnyH_take (i := 6) (v := ?_) rfl (by kernel_rfl) (by kernel_rfl) (by kernel_rfl) (fun _ _ _ h => h) (Or.inl ⟨by rfl, ?_⟩) hHeld3 ?_
 rotate_left
 ·intro w hSw1
  try dsimp only at hSw1
  go_simp
  try (with_reducible rfl)
 try simp only [Act.put, LsA, LsB, LsC, LsD, LsE, LsF]
 refine wpAnyH_ready (rs := [7]) (by kernel_rfl) (by simp) ?_
 refine AllReadyH.cons rfl (fun K hK => ?_) AllReadyH.nil
 go_simp
 skip
 go_wp2_with fail
 refine hK.out _ _ (Lib.hid (Blk.far (p := ⟨b + 1 + 1, 14, none⟩) hHeld3.out (by simp; have := H2.out.2.2.2.2; omega) _)) (fun hHeld4 => ?_)
 clear hK K hHeld3
 try simp only [Act.put, LsA, LsB, LsC, LsD, LsE, LsF]
 refine wpAnyH_done (by kernel_rfl) ?_ _
 go_upto_region 20 with fail
 clear r0 r1 r2 r3 r4 r5 r6 r7 r8 r9 r10 r11 r12 r13 r14 r15 r16 r17 rl rf0 rf1 rf2 rf3 rf4 rf5 rf6 rf7 rf8 rf9 rf10 rf11 rf12 rf13 rf14 rf15 rf16 rf17
 obtain ⟨W, hW⟩ : ∃ W, W = ((X1.setCell ⟨b + 1 + 1, 3, none⟩ (.int .i64 3)).setCell ⟨b + 1 + 1, 14, none⟩ (.int .i64 x.rev)) := ⟨_, rfl⟩
 have ss0 : Step [b + 1 + 1] [b + 1 + 1] X1 W := by
  rw [hW]
  iterate 2 refine Step.setCell ?_ (.inl (by simp)) _
  exact Step.refl _ _
 have N : Hid (Blk W (b + 1 + 1) 44 #[.int .i64 x.client, .int .i64 x.seq, .string ⟨x.token.toArray⟩, .int .i64 3, .string ⟨#[]⟩, .string ⟨#[]⟩, .string ⟨#[]⟩, .string ⟨#[]⟩, .int .i64 0, .int .i64 0, .string ⟨#[]⟩, .string ⟨#[]⟩, .bool false, .bool false, .int .i64 x.rev, .slice none 0 0, .slice none 0 0, .slice none 0 0] ∧ Blk W (b + 1) 44 #[.int .i64 0, .int .i64 0, .string ⟨#[]⟩, .int .i64 0, .string ⟨#[]⟩, .string ⟨#[]⟩, .string ⟨#[]⟩, .string ⟨#[]⟩, .int .i64 0, .int .i64 0, .string ⟨#[]⟩, .string ⟨#[]⟩, .bool false, .bool false, .int .i64 0, .slice none 0 0, .slice none 0 0, .slice none 0 0] ∧ Step [] [] w W) := ⟨by rw [hW]; have hq := ((G1.out.2.2.1.set 3 (.int .i64 3)).set 14 (.int .i64 x.rev)); simpa using hq, G1.out.2.1.step ss0 (by simp), G1.out.2.2.2.out1' ss0 (by have := HB.out; simp; omega)⟩
 have HSS := Lib.hid ss0
 rw [← hW]
 clear hW ss0
 go_wp2_with (first | (refine wpList_loadRow (T := 44) (b := b + 1 + 1) (T' := 44) (cs := #[.int .i64 x.client, .int .i64 x.seq, .string ⟨x.token.toArray⟩, .int .i64 3, .string ⟨#[]⟩, .string ⟨#[]⟩, .string ⟨#[]⟩, .string ⟨#[]⟩, .int .i64 0, .int .i64 0, .string ⟨#[]⟩, .string ⟨#[]⟩, .bool false, .bool false, .int .i64 x.rev, .slice none 0 0, .slice none 0 0, .slice none 0 0]) rfl (.tmp 3) rfl rfl Try.sCmd N.out.1 ?_) | (refine wpList_storeRow (T := 44) (b := b + 1) (T' := 44) (cs := #[.int .i64 0, .int .i64 0, .string ⟨#[]⟩, .int .i64 0, .string ⟨#[]⟩, .string ⟨#[]⟩, .string ⟨#[]⟩, .string ⟨#[]⟩, .int .i64 0, .int .i64 0, .string ⟨#[]⟩, .string ⟨#[]⟩, .bool false, .bool false, .int .i64 0, .slice none 0 0, .slice none 0 0, .slice none 0 0]) (vs := #[.int .i64 x.client, .int .i64 x.seq, .string ⟨x.token.toArray⟩, .int .i64 3, .string ⟨#[]⟩, .string ⟨#[]⟩, .string ⟨#[]⟩, .string ⟨#[]⟩, .int .i64 0, .int .i64 0, .string ⟨#[]⟩, .string ⟨#[]⟩, .bool false, .bool false, .int .i64 x.rev, .slice none 0 0, .slice none 0 0, .slice none 0 0]) rfl (.tmp 2) (.tmp 92) rfl rfl rfl Try.sCmd N.out.2.1 rfl (by simp [Value.oneCell']) ?_; intro U Q ss))
 have so := N.out.2.2.out1' ss (by have := HB.out; simp; omega)
 refine bodyPost_ret (v := .agg #[.int .i64 x.client, .int .i64 x.seq, .string ⟨x.token.toArray⟩, .int .i64 3, .string ⟨#[]⟩, .string ⟨#[]⟩, .string ⟨#[]⟩, .string ⟨#[]⟩, .int .i64 0, .int .i64 0, .string ⟨#[]⟩, .string ⟨#[]⟩, .bool false, .bool false, .int .i64 x.rev, .slice none 0 0, .slice none 0 0, .slice none 0 0]) ?_ rfl ⟨by simp [cleanC, onlyC, isK, hasN, hasO, hasW, hasS, hasQ, hasP, hasG, hasR, HKX.out], so⟩
 exact res_row rfl _ rfl Try.sCmd Q

set_option maxHeartbeats 8000000 in
theorem flat4_any (x : Cm) (w : World) (hk : 4 ≤ x.kind ∧ x.kind ≤ 14) : Calls Try.prog 58 #[rqV x (.iface 139 (adV x))] w fun e w' => e = .returned (cmV (cleanC x) (.slice none 0 0) (.slice none 0 0) (.slice none 0 0)) ∧ Step [] [] w w' := by
 have HK := Lib.hid hk
 clear hk
 have q1 := rta41
 have q2 := rta42
 have q3 := rta43
 have q4 := rta44
 have A0 := blk3q w 99 44 44 #[.int .i64 x.client, .int .i64 x.seq, .string ⟨x.token.toArray⟩, .iface 139 (.agg #[.int .i64 x.kind, .string ⟨x.name.toArray⟩, .string ⟨x.other.toArray⟩, .string ⟨x.word.toArray⟩, .string ⟨x.salt.toArray⟩, .int .i64 x.bytes, .int .i64 x.keys, .string ⟨x.gf.toArray⟩, .string ⟨x.gt.toArray⟩, .bool x.gr, .bool x.gw])] #[.int .i64 0, .int .i64 0, .string ⟨#[]⟩, .int .i64 0, .string ⟨#[]⟩, .string ⟨#[]⟩, .string ⟨#[]⟩, .string ⟨#[]⟩, .int .i64 0, .int .i64 0, .string ⟨#[]⟩, .string ⟨#[]⟩, .bool false, .bool false, .int .i64 0, .slice none 0 0, .slice none 0 0, .slice none 0 0] #[.int .i64 0, .int .i64 0, .string ⟨#[]⟩, .int .i64 0, .string ⟨#[]⟩, .string ⟨#[]⟩, .string ⟨#[]⟩, .string ⟨#[]⟩, .int .i64 0, .int .i64 0, .string ⟨#[]⟩, .string ⟨#[]⟩, .bool false, .bool false, .int .i64 0, .slice none 0 0, .slice none 0 0, .slice none 0 0]
 have A1 := (((Step.refl [] w).alloc (.cells #[.int .i64 x.client, .int .i64 x.seq, .string ⟨x.token.toArray⟩, .iface 139 (.agg #[.int .i64 x.kind, .string ⟨x.name.toArray⟩, .string ⟨x.other.toArray⟩, .string ⟨x.word.toArray⟩, .string ⟨x.salt.toArray⟩, .int .i64 x.bytes, .int .i64 x.keys, .string ⟨x.gf.toArray⟩, .string ⟨x.gt.toArray⟩, .bool x.gr, .bool x.gw])] 99)).alloc (.cells #[.int .i64 0, .int .i64 0, .string ⟨#[]⟩, .int .i64 0, .string ⟨#[]⟩, .string ⟨#[]⟩, .string ⟨#[]⟩, .string ⟨#[]⟩, .int .i64 0, .int .i64 0, .string ⟨#[]⟩, .string ⟨#[]⟩, .bool false, .bool false, .int .i64 0, .slice none 0 0, .slice none 0 0, .slice none 0 0] 44)).alloc (.cells #[.int .i64 0, .int .i64 0, .string ⟨#[]⟩, .int .i64 0, .string ⟨#[]⟩, .string ⟨#[]⟩, .string ⟨#[]⟩, .string ⟨#[]⟩, .int .i64 0, .int .i64 0, .string ⟨#[]⟩, .string ⟨#[]⟩, .bool false, .bool false, .int .i64 0, .slice none 0 0, .slice none 0 0, .slice none 0 0] 44)
 have HA := Lib.hid (And.intro A0 A1)
 clear A0 A1
 go_enter Try.func58, Try.ntmps58
 go_upto_region 2 with (refine wpList_storeRow (T := 44) (b := w.heap.size + 1 + 1) (T' := 44) (cs := #[.int .i64 0, .int .i64 0, .string ⟨#[]⟩, .int .i64 0, .string ⟨#[]⟩, .string ⟨#[]⟩, .string ⟨#[]⟩, .string ⟨#[]⟩, .int .i64 0, .int .i64 0, .string ⟨#[]⟩, .string ⟨#[]⟩, .bool false, .bool false, .int .i64 0, .slice none 0 0, .slice none 0 0, .slice none 0 0]) (vs := #[.int .i64 x.client, .int .i64 x.seq, .string ⟨x.token.toArray⟩, .int .i64 0, .string ⟨#[]⟩, .string ⟨#[]⟩, .string ⟨#[]⟩, .string ⟨#[]⟩, .int .i64 0, .int .i64 0, .string ⟨#[]⟩, .string ⟨#[]⟩, .bool false, .bool false, .int .i64 0, .slice none 0 0, .slice none 0 0, .slice none 0 0]) rfl (.tmp 3) (.tmp 15) rfl rfl rfl Try.sCmd HA.out.1.2.2 rfl (by simp [Value.oneCell']) ?_; intro V vb ks)
 have H0 : Hid (Blk V w.heap.size 99 #[.int .i64 x.client, .int .i64 x.seq, .string ⟨x.token.toArray⟩, .iface 139 (.agg #[.int .i64 x.kind, .string ⟨x.name.toArray⟩, .string ⟨x.other.toArray⟩, .string ⟨x.word.toArray⟩, .string ⟨x.salt.toArray⟩, .int .i64 x.bytes, .int .i64 x.keys, .string ⟨x.gf.toArray⟩, .string ⟨x.gt.toArray⟩, .bool x.gr, .bool x.gw])] ∧ Blk V (w.heap.size + 1) 44 #[.int .i64 0, .int .i64 0, .string ⟨#[]⟩, .int .i64 0, .string ⟨#[]⟩, .string ⟨#[]⟩, .string ⟨#[]⟩, .string ⟨#[]⟩, .int .i64 0, .int .i64 0, .string ⟨#[]⟩, .string ⟨#[]⟩, .bool false, .bool false, .int .i64 0, .slice none 0 0, .slice none 0 0, .slice none 0 0] ∧ Blk V (w.heap.size + 1 + 1) 44 #[.int .i64 x.client, .int .i64 x.seq, .string ⟨x.token.toArray⟩, .int .i64 0, .string ⟨#[]⟩, .string ⟨#[]⟩, .string ⟨#[]⟩, .string ⟨#[]⟩, .int .i64 0, .int .i64 0, .string ⟨#[]⟩, .string ⟨#[]⟩, .bool false, .bool false, .int .i64 0, .slice none 0 0, .slice none 0 0, .slice none 0 0] ∧ Step [] [] w V) := ⟨HA.out.1.1.step ks (by simp; omega), HA.out.1.2.1.step ks (by simp), vb, HA.out.2.out1' ks (by simp; omega)⟩
 clear HA vb ks
 obtain ⟨b, hb⟩ : ∃ b, b = w.heap.size := ⟨_, rfl⟩
 have H1 : Hid (Blk V b 99 #[.int .i64 x.client, .int .i64 x.seq, .string ⟨x.token.toArray⟩, .iface 139 (.agg #[.int .i64 x.kind, .string ⟨x.name.toArray⟩, .string ⟨x.other.toArray⟩, .string ⟨x.word.toArray⟩, .string ⟨x.salt.toArray⟩, .int .i64 x.bytes, .int .i64 x.keys, .string ⟨x.gf.toArray⟩, .string ⟨x.gt.toArray⟩, .bool x.gr, .bool x.gw])] ∧ Blk V (b + 1) 44 #[.int .i64 0, .int .i64 0, .string ⟨#[]⟩, .int .i64 0, .string ⟨#[]⟩, .string ⟨#[]⟩, .string ⟨#[]⟩, .string ⟨#[]⟩, .int .i64 0, .int .i64 0, .string ⟨#[]⟩, .string ⟨#[]⟩, .bool false, .bool false, .int .i64 0, .slice none 0 0, .slice none 0 0, .slice none 0 0] ∧ Blk V (b + 1 + 1) 44 #[.int .i64 x.client, .int .i64 x.seq, .string ⟨x.token.toArray⟩, .int .i64 0, .string ⟨#[]⟩, .string ⟨#[]⟩, .string ⟨#[]⟩, .string ⟨#[]⟩, .int .i64 0, .int .i64 0, .string ⟨#[]⟩, .string ⟨#[]⟩, .bool false, .bool false, .int .i64 0, .slice none 0 0, .slice none 0 0, .slice none 0 0] ∧ Step [] [] w V ∧ b = w.heap.size) := by
  rw [hb]
  exact ⟨H0.out.1, H0.out.2.1, H0.out.2.2.1, H0.out.2.2.2, rfl⟩
 rw [← hb]
 clear hb H0
 have HB := Lib.hid H1.out.2.2.2.2
 have cc := (H1.out.1).cell
 have c0 := cc 0
 have c1 := cc 1
 have c2 := cc 2
 have c3 := cc 3
 clear cc
 simp only [List.getElem?_toArray, List.getElem?_cons_zero, List.getElem?_cons_succ] at c0 c1 c2 c3
 have cl := (H1.out.1).lt
 have HKA : Hid (decide (4 ≤ x.kind ∧ x.kind ≤ 14) = true) := Lib.hid (decide_eq_true HK.out)
 go_upto_region 16 with fail
 clear q1 q2 q3 q4
 clear c0 c1 c2 c3 cl
 obtain ⟨b4, hb4⟩ : ∃ b4, b4 = V.heap.size := ⟨_, rfl⟩
 obtain ⟨V2, hV2⟩ : ∃ V2, V2 = V.alloc (.cells #[.int .i64 x.kind, .string ⟨x.name.toArray⟩, .string ⟨x.other.toArray⟩, .string ⟨x.word.toArray⟩, .string ⟨x.salt.toArray⟩, .int .i64 x.bytes, .int .i64 x.keys, .string ⟨x.gf.toArray⟩, .string ⟨x.gt.toArray⟩, .bool x.gr, .bool x.gw] 139) := ⟨_, rfl⟩
 have H2 : Hid (Blk V2 b4 139 #[.int .i64 x.kind, .string ⟨x.name.toArray⟩, .string ⟨x.other.toArray⟩, .string ⟨x.word.toArray⟩, .string ⟨x.salt.toArray⟩, .int .i64 x.bytes, .int .i64 x.keys, .string ⟨x.gf.toArray⟩, .string ⟨x.gt.toArray⟩, .bool x.gr, .bool x.gw] ∧ Blk V2 (b + 1) 44 #[.int .i64 0, .int .i64 0, .string ⟨#[]⟩, .int .i64 0, .string ⟨#[]⟩, .string ⟨#[]⟩, .string ⟨#[]⟩, .string ⟨#[]⟩, .int .i64 0, .int .i64 0, .string ⟨#[]⟩, .string ⟨#[]⟩, .bool false, .bool false, .int .i64 0, .slice none 0 0, .slice none 0 0, .slice none 0 0] ∧ Blk V2 (b + 1 + 1) 44 #[.int .i64 x.client, .int .i64 x.seq, .string ⟨x.token.toArray⟩, .int .i64 0, .string ⟨#[]⟩, .string ⟨#[]⟩, .string ⟨#[]⟩, .string ⟨#[]⟩, .int .i64 0, .int .i64 0, .string ⟨#[]⟩, .string ⟨#[]⟩, .bool false, .bool false, .int .i64 0, .slice none 0 0, .slice none 0 0, .slice none 0 0] ∧ Step [] [] w V2 ∧ b + 1 + 1 < b4) := by
  rw [hV2, hb4]
  exact ⟨Blk.new _ _ _, H1.out.2.1.alloc _, H1.out.2.2.1.alloc _, H1.out.2.2.2.1.alloc _, H1.out.2.2.1.lt⟩
 rw [← hV2, ← hb4]
 clear hV2 hb4
 have tc := (H2.out.1).cell
 have t0 := tc 0
 have t1 := tc 1
 have t2 := tc 2
 have t3 := tc 3
 have t4 := tc 4
 have t5 := tc 5
 have t6 := tc 6
 have t7 := tc 7
 have t8 := tc 8
 have t9 := tc 9
 have t10 := tc 10
 clear tc
 simp only [List.getElem?_toArray, List.getElem?_cons_zero, List.getElem?_cons_succ] at t0 t1 t2 t3 t4 t5 t6 t7 t8 t9 t10
 have tl := (H2.out.1).lt
 go_wp2_with fail
 refine (admin_any x.kind V2).mono ?_
 rintro e V0 ⟨rfl, rfl⟩
 rw [HKA.out]
 go_wp2_with fail
 refine (only_any x V2 HK.out).mono ?_
 rintro e X1 ⟨rfl, k1⟩
 obtain ⟨y, hy⟩ : ∃ y, y = cleanC x := ⟨_, rfl⟩
 have HY := Lib.hid hy
 rw [← hy]
 clear t0 t1 t2 t3 t4 t5 t6 t7 t8 t9 t10 tl
 clear hy
 have G1 : Hid (Blk X1 b4 139 #[.int .i64 x.kind, .string ⟨x.name.toArray⟩, .string ⟨x.other.toArray⟩, .string ⟨x.word.toArray⟩, .string ⟨x.salt.toArray⟩, .int .i64 x.bytes, .int .i64 x.keys, .string ⟨x.gf.toArray⟩, .string ⟨x.gt.toArray⟩, .bool x.gr, .bool x.gw] ∧ Blk X1 (b + 1) 44 #[.int .i64 0, .int .i64 0, .string ⟨#[]⟩, .int .i64 0, .string ⟨#[]⟩, .string ⟨#[]⟩, .string ⟨#[]⟩, .string ⟨#[]⟩, .int .i64 0, .int .i64 0, .string ⟨#[]⟩, .string ⟨#[]⟩, .bool false, .bool false, .int .i64 0, .slice none 0 0, .slice none 0 0, .slice none 0 0] ∧ Blk X1 (b + 1 + 1) 44 #[.int .i64 x.client, .int .i64 x.seq, .string ⟨x.token.toArray⟩, .int .i64 0, .string ⟨#[]⟩, .string ⟨#[]⟩, .string ⟨#[]⟩, .string ⟨#[]⟩, .int .i64 0, .int .i64 0, .string ⟨#[]⟩, .string ⟨#[]⟩, .bool false, .bool false, .int .i64 0, .slice none 0 0, .slice none 0 0, .slice none 0 0] ∧ Step [] [] w X1) := ⟨H2.out.1.step k1 (by simp), H2.out.2.1.step k1 (by simp), H2.out.2.2.1.step k1 (by simp), H2.out.2.2.2.1.trans k1⟩
 clear k1
 go_upto_region 19 with (refine wpList_storeRow (T := 139) (b := b4) (T' := 139) (cs := #[.int .i64 x.kind, .string ⟨x.name.toArray⟩, .string ⟨x.other.toArray⟩, .string ⟨x.word.toArray⟩, .string ⟨x.salt.toArray⟩, .int .i64 x.bytes, .int .i64 x.keys, .string ⟨x.gf.toArray⟩, .string ⟨x.gt.toArray⟩, .bool x.gr, .bool x.gw]) (vs := #[.int .i64 y.kind, .string ⟨y.name.toArray⟩, .string ⟨y.other.toArray⟩, .string ⟨y.word.toArray⟩, .string ⟨y.salt.toArray⟩, .int .i64 y.bytes, .int .i64 y.keys, .string ⟨y.gf.toArray⟩, .string ⟨y.gt.toArray⟩, .bool y.gr, .bool y.gw]) rfl (.tmp 7) (.tmp 67) rfl rfl rfl Try.sAdm G1.out.1 rfl (by simp [Value.oneCell']) ?_; intro X2 hX2 ssb)
 have G2 : Hid (Blk X2 b4 139 #[.int .i64 y.kind, .string ⟨y.name.toArray⟩, .string ⟨y.other.toArray⟩, .string ⟨y.word.toArray⟩, .string ⟨y.salt.toArray⟩, .int .i64 y.bytes, .int .i64 y.keys, .string ⟨y.gf.toArray⟩, .string ⟨y.gt.toArray⟩, .bool y.gr, .bool y.gw] ∧ Blk X2 (b + 1) 44 #[.int .i64 0, .int .i64 0, .string ⟨#[]⟩, .int .i64 0, .string ⟨#[]⟩, .string ⟨#[]⟩, .string ⟨#[]⟩, .string ⟨#[]⟩, .int .i64 0, .int .i64 0, .string ⟨#[]⟩, .string ⟨#[]⟩, .bool false, .bool false, .int .i64 0, .slice none 0 0, .slice none 0 0, .slice none 0 0] ∧ Blk X2 (b + 1 + 1) 44 #[.int .i64 x.client, .int .i64 x.seq, .string ⟨x.token.toArray⟩, .int .i64 0, .string ⟨#[]⟩, .string ⟨#[]⟩, .string ⟨#[]⟩, .string ⟨#[]⟩, .int .i64 0, .int .i64 0, .string ⟨#[]⟩, .string ⟨#[]⟩, .bool false, .bool false, .int .i64 0, .slice none 0 0, .slice none 0 0, .slice none 0 0] ∧ Step [] [] w X2) := ⟨hX2, G1.out.2.1.step ssb (by have := H2.out.2.2.2.2; simp; omega), G1.out.2.2.1.step ssb (by have := H2.out.2.2.2.2; simp; omega), G1.out.2.2.2.out1' ssb (by have := H2.out.2.2.2.2; have := HB.out; simp; omega)⟩
 clear hX2 ssb
 refine wp_region_held_drew (S := fun V => Hid (Blk V b4 139 #[.int .i64 y.kind, .string ⟨y.name.toArray⟩, .string ⟨y.other.toArray⟩, .string ⟨y.word.toArray⟩, .string ⟨y.salt.toArray⟩, .int .i64 y.bytes, .int .i64 y.keys, .string ⟨y.gf.toArray⟩, .string ⟨y.gt.toArray⟩, .bool y.gr, .bool y.gw])) (by kernel_rfl) (Lib.hid G2.out.1.drew) (fun hHeld => ?_)
 refine wpAnyH_take (i := 0) (v := ?_) rfl (by kernel_rfl) (by kernel_rfl) (by kernel_rfl) (fun _ _ _ h => h) (Or.inl ⟨by rfl, ?_⟩) hHeld ?_
 rotate_left
 ·intro w hSw1
  try dsimp only at hSw1
  go_simp
  try (with_reducible rfl)
 try simp only [Act.put, LsA, LsB, LsC, LsD, LsE, LsF]
 refine wpAnyH_take (i := 1) (v := ?_) rfl (by kernel_rfl) (by kernel_rfl) (by kernel_rfl) (fun _ _ _ h => h) (Or.inl ⟨by rfl, ?_⟩) hHeld ?_
 rotate_left
 ·intro w hSw1
  have tc := hSw1.out.cell
  have t0 := tc 0
  have t1 := tc 1
  have t2 := tc 2
  have t3 := tc 3
  have t4 := tc 4
  have t5 := tc 5
  have t6 := tc 6
  have t7 := tc 7
  have t8 := tc 8
  have t9 := tc 9
  have t10 := tc 10
  clear tc
  simp only [List.getElem?_toArray, List.getElem?_cons_zero, List.getElem?_cons_succ] at t0 t1 t2 t3 t4 t5 t6 t7 t8 t9 t10
  have tl := hSw1.out.lt
  go_simp
  try (with_reducible rfl)
 try simp only [Act.put, LsA, LsB, LsC, LsD, LsE, LsF]
 refine wpAnyH_take (i := 2) (v := ?_) rfl (by kernel_rfl) (by kernel_rfl) (by kernel_rfl) (fun _ _ _ h => h) (Or.inl ⟨by rfl, ?_⟩) hHeld ?_
 rotate_left
 ·intro w hSw1
  try dsimp only at hSw1
  go_simp
  try (with_reducible rfl)
 try simp only [Act.put, LsA, LsB, LsC, LsD, LsE, LsF]
 refine wpAnyH_take (i := 3) (v := ?_) rfl (by kernel_rfl) (by kernel_rfl) (by kernel_rfl) (fun _ _ _ h => h) (Or.inl ⟨by rfl, ?_⟩) hHeld ?_
 rotate_left
 ·intro w hSw1
  have tc := hSw1.out.cell
  have t0 := tc 0
  have t1 := tc 1
  have t2 := tc 2
  have t3 := tc 3
  have t4 := tc 4
  have t5 := tc 5
  have t6 := tc 6
  have t7 := tc 7
  have t8 := tc 8
  have t9 := tc 9
  have t10 := tc 10
  clear tc
  simp only [List.getElem?_toArray, List.getElem?_cons_zero, List.getElem?_cons_succ] at t0 t1 t2 t3 t4 t5 t6 t7 t8 t9 t10
  have tl := hSw1.out.lt
  go_simp
  try (with_reducible rfl)
 try simp only [Act.put, LsA, LsB, LsC, LsD, LsE, LsF]
 refine wpAnyH_take (i := 4) (v := ?_) rfl (by kernel_rfl) (by kernel_rfl) (by kernel_rfl) (fun _ _ _ h => h) (Or.inl ⟨by rfl, ?_⟩) hHeld ?_
 rotate_left
 ·intro w hSw1
  try dsimp only at hSw1
  go_simp
  try (with_reducible rfl)
 try simp only [Act.put, LsA, LsB, LsC, LsD, LsE, LsF]
 refine wpAnyH_take (i := 5) (v := ?_) rfl (by kernel_rfl) (by kernel_rfl) (by kernel_rfl) (fun _ _ _ h => h) (Or.inl ⟨by rfl, ?_⟩) hHeld ?_
 rotate_left
 ·intro w hSw1
  have tc := hSw1.out.cell
  have t0 := tc 0
  have t1 := tc 1
  have t2 := tc 2
  have t3 := tc 3
  have t4 := tc 4
  have t5 := tc 5
  have t6 := tc 6
  have t7 := tc 7
  have t8 := tc 8
  have t9 := tc 9
  have t10 := tc 10
  clear tc
  simp only [List.getElem?_toArray, List.getElem?_cons_zero, List.getElem?_cons_succ] at t0 t1 t2 t3 t4 t5 t6 t7 t8 t9 t10
  have tl := hSw1.out.lt
  go_simp
  try (with_reducible rfl)
 try simp only [Act.put, LsA, LsB, LsC, LsD, LsE, LsF]
 refine wpAnyH_take (i := 6) (v := ?_) rfl (by kernel_rfl) (by kernel_rfl) (by kernel_rfl) (fun _ _ _ h => h) (Or.inl ⟨by rfl, ?_⟩) hHeld ?_
 rotate_left
 ·intro w hSw1
  try dsimp only at hSw1
  go_simp
  try (with_reducible rfl)
 try simp only [Act.put, LsA, LsB, LsC, LsD, LsE, LsF]
 refine wpAnyH_take (i := 7) (v := ?_) rfl (by kernel_rfl) (by kernel_rfl) (by kernel_rfl) (fun _ _ _ h => h) (Or.inl ⟨by rfl, ?_⟩) hHeld ?_
 rotate_left
 ·intro w hSw1
  have tc := hSw1.out.cell
  have t0 := tc 0
  have t1 := tc 1
  have t2 := tc 2
  have t3 := tc 3
  have t4 := tc 4
  have t5 := tc 5
  have t6 := tc 6
  have t7 := tc 7
  have t8 := tc 8
  have t9 := tc 9
  have t10 := tc 10
  clear tc
  simp only [List.getElem?_toArray, List.getElem?_cons_zero, List.getElem?_cons_succ] at t0 t1 t2 t3 t4 t5 t6 t7 t8 t9 t10
  have tl := hSw1.out.lt
  go_simp
  try (with_reducible rfl)
 try simp only [Act.put, LsA, LsB, LsC, LsD, LsE, LsF]
 refine wpAnyH_take (i := 8) (v := ?_) rfl (by kernel_rfl) (by kernel_rfl) (by kernel_rfl) (fun _ _ _ h => h) (Or.inl ⟨by rfl, ?_⟩) hHeld ?_
 rotate_left
 ·intro w hSw1
  try dsimp only at hSw1
  go_simp
  try (with_reducible rfl)
 try simp only [Act.put, LsA, LsB, LsC, LsD, LsE, LsF]
 refine wpAnyH_take (i := 9) (v := ?_) rfl (by kernel_rfl) (by kernel_rfl) (by kernel_rfl) (fun _ _ _ h => h) (Or.inl ⟨by rfl, ?_⟩) hHeld ?_
 rotate_left
 ·intro w hSw1
  have tc := hSw1.out.cell
  have t0 := tc 0
  have t1 := tc 1
  have t2 := tc 2
  have t3 := tc 3
  have t4 := tc 4
  have t5 := tc 5
  have t6 := tc 6
  have t7 := tc 7
  have t8 := tc 8
  have t9 := tc 9
  have t10 := tc 10
  clear tc
  simp only [List.getElem?_toArray, List.getElem?_cons_zero, List.getElem?_cons_succ] at t0 t1 t2 t3 t4 t5 t6 t7 t8 t9 t10
  have tl := hSw1.out.lt
  go_simp
  try (with_reducible rfl)
 try simp only [Act.put, LsA, LsB, LsC, LsD, LsE, LsF]
 refine wpAnyH_take (i := 10) (v := ?_) rfl (by kernel_rfl) (by kernel_rfl) (by kernel_rfl) (fun _ _ _ h => h) (Or.inl ⟨by rfl, ?_⟩) hHeld ?_
 rotate_left
 ·intro w hSw1
  try dsimp only at hSw1
  go_simp
  try (with_reducible rfl)
 try simp only [Act.put, LsA, LsB, LsC, LsD, LsE, LsF]
 refine wpAnyH_take (i := 11) (v := ?_) rfl (by kernel_rfl) (by kernel_rfl) (by kernel_rfl) (fun _ _ _ h => h) (Or.inl ⟨by rfl, ?_⟩) hHeld ?_
 rotate_left
 ·intro w hSw1
  have tc := hSw1.out.cell
  have t0 := tc 0
  have t1 := tc 1
  have t2 := tc 2
  have t3 := tc 3
  have t4 := tc 4
  have t5 := tc 5
  have t6 := tc 6
  have t7 := tc 7
  have t8 := tc 8
  have t9 := tc 9
  have t10 := tc 10
  clear tc
  simp only [List.getElem?_toArray, List.getElem?_cons_zero, List.getElem?_cons_succ] at t0 t1 t2 t3 t4 t5 t6 t7 t8 t9 t10
  have tl := hSw1.out.lt
  go_simp
  try (with_reducible rfl)
 try simp only [Act.put, LsA, LsB, LsC, LsD, LsE, LsF]
 refine wpAnyH_take (i := 12) (v := ?_) rfl (by kernel_rfl) (by kernel_rfl) (by kernel_rfl) (fun _ _ _ h => h) (Or.inl ⟨by rfl, ?_⟩) hHeld ?_
 rotate_left
 ·intro w hSw1
  try dsimp only at hSw1
  go_simp
  try (with_reducible rfl)
 try simp only [Act.put, LsA, LsB, LsC, LsD, LsE, LsF]
 refine wpAnyH_take (i := 13) (v := ?_) rfl (by kernel_rfl) (by kernel_rfl) (by kernel_rfl) (fun _ _ _ h => h) (Or.inl ⟨by rfl, ?_⟩) hHeld ?_
 rotate_left
 ·intro w hSw1
  have tc := hSw1.out.cell
  have t0 := tc 0
  have t1 := tc 1
  have t2 := tc 2
  have t3 := tc 3
  have t4 := tc 4
  have t5 := tc 5
  have t6 := tc 6
  have t7 := tc 7
  have t8 := tc 8
  have t9 := tc 9
  have t10 := tc 10
  clear tc
  simp only [List.getElem?_toArray, List.getElem?_cons_zero, List.getElem?_cons_succ] at t0 t1 t2 t3 t4 t5 t6 t7 t8 t9 t10
  have tl := hSw1.out.lt
  go_simp
  try (with_reducible rfl)
 try simp only [Act.put, LsA, LsB, LsC, LsD, LsE, LsF]
 refine wpAnyH_take (i := 14) (v := ?_) rfl (by kernel_rfl) (by kernel_rfl) (by kernel_rfl) (fun _ _ _ h => h) (Or.inl ⟨by rfl, ?_⟩) hHeld ?_
 rotate_left
 ·intro w hSw1
  try dsimp only at hSw1
  go_simp
  try (with_reducible rfl)
 try simp only [Act.put, LsA, LsB, LsC, LsD, LsE, LsF]
 refine wpAnyH_take (i := 15) (v := ?_) rfl (by kernel_rfl) (by kernel_rfl) (by kernel_rfl) (fun _ _ _ h => h) (Or.inl ⟨by rfl, ?_⟩) hHeld ?_
 rotate_left
 ·intro w hSw1
  have tc := hSw1.out.cell
  have t0 := tc 0
  have t1 := tc 1
  have t2 := tc 2
  have t3 := tc 3
  have t4 := tc 4
  have t5 := tc 5
  have t6 := tc 6
  have t7 := tc 7
  have t8 := tc 8
  have t9 := tc 9
  have t10 := tc 10
  clear tc
  simp only [List.getElem?_toArray, List.getElem?_cons_zero, List.getElem?_cons_succ] at t0 t1 t2 t3 t4 t5 t6 t7 t8 t9 t10
  have tl := hSw1.out.lt
  go_simp
  try (with_reducible rfl)
 try simp only [Act.put, LsA, LsB, LsC, LsD, LsE, LsF]
 refine wpAnyH_take (i := 16) (v := ?_) rfl (by kernel_rfl) (by kernel_rfl) (by kernel_rfl) (fun _ _ _ h => h) (Or.inl ⟨by rfl, ?_⟩) hHeld ?_
 rotate_left
 ·intro w hSw1
  try dsimp only at hSw1
  go_simp
  try (with_reducible rfl)
 try simp only [Act.put, LsA, LsB, LsC, LsD, LsE, LsF]
 refine wpAnyH_ready (rs := [17]) (by kernel_rfl) (by simp) ?_
 refine AllReadyH.cons rfl (fun K hK => ?_) AllReadyH.nil
 refine step_storeOff (T' := 44) (cs := #[.int .i64 x.client, .int .i64 x.seq, .string ⟨x.token.toArray⟩, .int .i64 0, .string ⟨#[]⟩, .string ⟨#[]⟩, .string ⟨#[]⟩, .string ⟨#[]⟩, .int .i64 0, .int .i64 0, .string ⟨#[]⟩, .string ⟨#[]⟩, .bool false, .bool false, .int .i64 0, .slice none 0 0, .slice none 0 0, .slice none 0 0]) (cs' := #[.int .i64 x.client, .int .i64 x.seq, .string ⟨x.token.toArray⟩, .int .i64 y.kind, .string ⟨#[]⟩, .string ⟨#[]⟩, .string ⟨#[]⟩, .string ⟨#[]⟩, .int .i64 0, .int .i64 0, .string ⟨#[]⟩, .string ⟨#[]⟩, .bool false, .bool false, .int .i64 0, .slice none 0 0, .slice none 0 0, .slice none 0 0]) (v := .int .i64 y.kind) rfl (.tmp 84) (.tmp 69) rfl rfl rfl (by kernel_rfl) (G2.out.2.2.1.drew) (by simp [Value.cells]) (by simp [Value.cells, Value.oneCell']) (by kernel_rfl) ?_; intro Y0 hj sj; have S0 : Hid (Blk Y0 (b + 1 + 1) 44 #[.int .i64 x.client, .int .i64 x.seq, .string ⟨x.token.toArray⟩, .int .i64 y.kind, .string ⟨#[]⟩, .string ⟨#[]⟩, .string ⟨#[]⟩, .string ⟨#[]⟩, .int .i64 0, .int .i64 0, .string ⟨#[]⟩, .string ⟨#[]⟩, .bool false, .bool false, .int .i64 0, .slice none 0 0, .slice none 0 0, .slice none 0 0] ∧ Blk Y0 (b + 1) 44 #[.int .i64 0, .int .i64 0, .string ⟨#[]⟩, .int .i64 0, .string ⟨#[]⟩, .string ⟨#[]⟩, .string ⟨#[]⟩, .string ⟨#[]⟩, .int .i64 0, .int .i64 0, .string ⟨#[]⟩, .string ⟨#[]⟩, .bool false, .bool false, .int .i64 0, .slice none 0 0, .slice none 0 0, .slice none 0 0] ∧ Step [] [] w Y0) := ⟨hj, (G2.out.2.1.drew).step sj (by simp), (G2.out.2.2.2.drew).out1' sj (by have := HB.out; simp; omega)⟩; have SJ0 := Lib.hid sj; clear hj sj
 refine hK.out _ _ (Lib.hid (hHeld.out.step SJ0.out (by have := H2.out.2.2.2.2; simp; omega))) (fun hHeld2 => ?_)
 clear hK K hHeld
 try simp only [Act.put, LsA, LsB, LsC, LsD, LsE, LsF]
 refine wpAnyH_take (i := 18) (v := ?_) rfl (by kernel_rfl) (by kernel_rfl) (by kernel_rfl) (fun _ _ _ h => h) (Or.inl ⟨by rfl, ?_⟩) hHeld2 ?_
 rotate_left
 ·intro w hSw1
  try dsimp only at hSw1
  go_simp
  try (with_reducible rfl)
 try simp only [Act.put, LsA, LsB, LsC, LsD, LsE, LsF]
 refine wpAnyH_ready (rs := [19]) (by kernel_rfl) (by simp) ?_
 refine AllReadyH.cons rfl (fun K hK => ?_) AllReadyH.nil
 refine step_storeOff (T' := 44) (cs := #[.int .i64 x.client, .int .i64 x.seq, .string ⟨x.token.toArray⟩, .int .i64 y.kind, .string ⟨#[]⟩, .string ⟨#[]⟩, .string ⟨#[]⟩, .string ⟨#[]⟩, .int .i64 0, .int .i64 0, .string ⟨#[]⟩, .string ⟨#[]⟩, .bool false, .bool false, .int .i64 0, .slice none 0 0, .slice none 0 0, .slice none 0 0]) (cs' := #[.int .i64 x.client, .int .i64 x.seq, .string ⟨x.token.toArray⟩, .int .i64 y.kind, .string ⟨y.name.toArray⟩, .string ⟨#[]⟩, .string ⟨#[]⟩, .string ⟨#[]⟩, .int .i64 0, .int .i64 0, .string ⟨#[]⟩, .string ⟨#[]⟩, .bool false, .bool false, .int .i64 0, .slice none 0 0, .slice none 0 0, .slice none 0 0]) (v := .string ⟨y.name.toArray⟩) rfl (.tmp 85) (.tmp 71) rfl rfl rfl (by kernel_rfl) (S0.out.1) (by simp [Value.cells]) (by simp [Value.cells, Value.oneCell']) (by kernel_rfl) ?_; intro Y1 hj sj; have S1 : Hid (Blk Y1 (b + 1 + 1) 44 #[.int .i64 x.client, .int .i64 x.seq, .string ⟨x.token.toArray⟩, .int .i64 y.kind, .string ⟨y.name.toArray⟩, .string ⟨#[]⟩, .string ⟨#[]⟩, .string ⟨#[]⟩, .int .i64 0, .int .i64 0, .string ⟨#[]⟩, .string ⟨#[]⟩, .bool false, .bool false, .int .i64 0, .slice none 0 0, .slice none 0 0, .slice none 0 0] ∧ Blk Y1 (b + 1) 44 #[.int .i64 0, .int .i64 0, .string ⟨#[]⟩, .int .i64 0, .string ⟨#[]⟩, .string ⟨#[]⟩, .string ⟨#[]⟩, .string ⟨#[]⟩, .int .i64 0, .int .i64 0, .string ⟨#[]⟩, .string ⟨#[]⟩, .bool false, .bool false, .int .i64 0, .slice none 0 0, .slice none 0 0, .slice none 0 0] ∧ Step [] [] w Y1) := ⟨hj, (S0.out.2.1).step sj (by simp), (S0.out.2.2).out1' sj (by have := HB.out; simp; omega)⟩; have SJ1 := Lib.hid sj; clear hj sj
 refine hK.out _ _ (Lib.hid (hHeld2.out.step SJ1.out (by have := H2.out.2.2.2.2; simp; omega))) (fun hHeld3 => ?_)
 clear hK K hHeld2
 try simp only [Act.put, LsA, LsB, LsC, LsD, LsE, LsF]
 refine wpAnyH_take (i := 20) (v := ?_) rfl (by kernel_rfl) (by kernel_rfl) (by kernel_rfl) (fun _ _ _ h => h) (Or.inl ⟨by rfl, ?_⟩) hHeld3 ?_
 rotate_left
 ·intro w hSw1
  try dsimp only at hSw1
  go_simp
  try (with_reducible rfl)
 try simp only [Act.put, LsA, LsB, LsC, LsD, LsE, LsF]
 refine wpAnyH_ready (rs := [21]) (by kernel_rfl) (by simp) ?_
 refine AllReadyH.cons rfl (fun K hK => ?_) AllReadyH.nil
 refine step_storeOff (T' := 44) (cs := #[.int .i64 x.client, .int .i64 x.seq, .string ⟨x.token.toArray⟩, .int .i64 y.kind, .string ⟨y.name.toArray⟩, .string ⟨#[]⟩, .string ⟨#[]⟩, .string ⟨#[]⟩, .int .i64 0, .int .i64 0, .string ⟨#[]⟩, .string ⟨#[]⟩, .bool false, .bool false, .int .i64 0, .slice none 0 0, .slice none 0 0, .slice none 0 0]) (cs' := #[.int .i64 x.client, .int .i64 x.seq, .string ⟨x.token.toArray⟩, .int .i64 y.kind, .string ⟨y.name.toArray⟩, .string ⟨y.other.toArray⟩, .string ⟨#[]⟩, .string ⟨#[]⟩, .int .i64 0, .int .i64 0, .string ⟨#[]⟩, .string ⟨#[]⟩, .bool false, .bool false, .int .i64 0, .slice none 0 0, .slice none 0 0, .slice none 0 0]) (v := .string ⟨y.other.toArray⟩) rfl (.tmp 86) (.tmp 73) rfl rfl rfl (by kernel_rfl) (S1.out.1) (by simp [Value.cells]) (by simp [Value.cells, Value.oneCell']) (by kernel_rfl) ?_; intro Y2 hj sj; have S2 : Hid (Blk Y2 (b + 1 + 1) 44 #[.int .i64 x.client, .int .i64 x.seq, .string ⟨x.token.toArray⟩, .int .i64 y.kind, .string ⟨y.name.toArray⟩, .string ⟨y.other.toArray⟩, .string ⟨#[]⟩, .string ⟨#[]⟩, .int .i64 0, .int .i64 0, .string ⟨#[]⟩, .string ⟨#[]⟩, .bool false, .bool false, .int .i64 0, .slice none 0 0, .slice none 0 0, .slice none 0 0] ∧ Blk Y2 (b + 1) 44 #[.int .i64 0, .int .i64 0, .string ⟨#[]⟩, .int .i64 0, .string ⟨#[]⟩, .string ⟨#[]⟩, .string ⟨#[]⟩, .string ⟨#[]⟩, .int .i64 0, .int .i64 0, .string ⟨#[]⟩, .string ⟨#[]⟩, .bool false, .bool false, .int .i64 0, .slice none 0 0, .slice none 0 0, .slice none 0 0] ∧ Step [] [] w Y2) := ⟨hj, (S1.out.2.1).step sj (by simp), (S1.out.2.2).out1' sj (by have := HB.out; simp; omega)⟩; have SJ2 := Lib.hid sj; clear hj sj
 refine hK.out _ _ (Lib.hid (hHeld3.out.step SJ2.out (by have := H2.out.2.2.2.2; simp; omega))) (fun hHeld4 => ?_)
 clear hK K hHeld3
 try simp only [Act.put, LsA, LsB, LsC, LsD, LsE, LsF]
 refine wpAnyH_take (i := 22) (v := ?_) rfl (by kernel_rfl) (by kernel_rfl) (by kernel_rfl) (fun _ _ _ h => h) (Or.inl ⟨by rfl, ?_⟩) hHeld4 ?_
 rotate_left
 ·intro w hSw1
  try dsimp only at hSw1
  go_simp
  try (with_reducible rfl)
 try simp only [Act.put, LsA, LsB, LsC, LsD, LsE, LsF]
 refine wpAnyH_ready (rs := [23]) (by kernel_rfl) (by simp) ?_
 refine AllReadyH.cons rfl (fun K hK => ?_) AllReadyH.nil
 refine step_storeOff (T' := 44) (cs := #[.int .i64 x.client, .int .i64 x.seq, .string ⟨x.token.toArray⟩, .int .i64 y.kind, .string ⟨y.name.toArray⟩, .string ⟨y.other.toArray⟩, .string ⟨#[]⟩, .string ⟨#[]⟩, .int .i64 0, .int .i64 0, .string ⟨#[]⟩, .string ⟨#[]⟩, .bool false, .bool false, .int .i64 0, .slice none 0 0, .slice none 0 0, .slice none 0 0]) (cs' := #[.int .i64 x.client, .int .i64 x.seq, .string ⟨x.token.toArray⟩, .int .i64 y.kind, .string ⟨y.name.toArray⟩, .string ⟨y.other.toArray⟩, .string ⟨y.word.toArray⟩, .string ⟨#[]⟩, .int .i64 0, .int .i64 0, .string ⟨#[]⟩, .string ⟨#[]⟩, .bool false, .bool false, .int .i64 0, .slice none 0 0, .slice none 0 0, .slice none 0 0]) (v := .string ⟨y.word.toArray⟩) rfl (.tmp 87) (.tmp 75) rfl rfl rfl (by kernel_rfl) (S2.out.1) (by simp [Value.cells]) (by simp [Value.cells, Value.oneCell']) (by kernel_rfl) ?_; intro Y3 hj sj; have S3 : Hid (Blk Y3 (b + 1 + 1) 44 #[.int .i64 x.client, .int .i64 x.seq, .string ⟨x.token.toArray⟩, .int .i64 y.kind, .string ⟨y.name.toArray⟩, .string ⟨y.other.toArray⟩, .string ⟨y.word.toArray⟩, .string ⟨#[]⟩, .int .i64 0, .int .i64 0, .string ⟨#[]⟩, .string ⟨#[]⟩, .bool false, .bool false, .int .i64 0, .slice none 0 0, .slice none 0 0, .slice none 0 0] ∧ Blk Y3 (b + 1) 44 #[.int .i64 0, .int .i64 0, .string ⟨#[]⟩, .int .i64 0, .string ⟨#[]⟩, .string ⟨#[]⟩, .string ⟨#[]⟩, .string ⟨#[]⟩, .int .i64 0, .int .i64 0, .string ⟨#[]⟩, .string ⟨#[]⟩, .bool false, .bool false, .int .i64 0, .slice none 0 0, .slice none 0 0, .slice none 0 0] ∧ Step [] [] w Y3) := ⟨hj, (S2.out.2.1).step sj (by simp), (S2.out.2.2).out1' sj (by have := HB.out; simp; omega)⟩; have SJ3 := Lib.hid sj; clear hj sj
 refine hK.out _ _ (Lib.hid (hHeld4.out.step SJ3.out (by have := H2.out.2.2.2.2; simp; omega))) (fun hHeld5 => ?_)
 clear hK K hHeld4
 try simp only [Act.put, LsA, LsB, LsC, LsD, LsE, LsF]
 refine wpAnyH_take (i := 24) (v := ?_) rfl (by kernel_rfl) (by kernel_rfl) (by kernel_rfl) (fun _ _ _ h => h) (Or.inl ⟨by rfl, ?_⟩) hHeld5 ?_
 rotate_left
 ·intro w hSw1
  try dsimp only at hSw1
  go_simp
  try (with_reducible rfl)
 try simp only [Act.put, LsA, LsB, LsC, LsD, LsE, LsF]
 refine wpAnyH_ready (rs := [25]) (by kernel_rfl) (by simp) ?_
 refine AllReadyH.cons rfl (fun K hK => ?_) AllReadyH.nil
 refine step_storeOff (T' := 44) (cs := #[.int .i64 x.client, .int .i64 x.seq, .string ⟨x.token.toArray⟩, .int .i64 y.kind, .string ⟨y.name.toArray⟩, .string ⟨y.other.toArray⟩, .string ⟨y.word.toArray⟩, .string ⟨#[]⟩, .int .i64 0, .int .i64 0, .string ⟨#[]⟩, .string ⟨#[]⟩, .bool false, .bool false, .int .i64 0, .slice none 0 0, .slice none 0 0, .slice none 0 0]) (cs' := #[.int .i64 x.client, .int .i64 x.seq, .string ⟨x.token.toArray⟩, .int .i64 y.kind, .string ⟨y.name.toArray⟩, .string ⟨y.other.toArray⟩, .string ⟨y.word.toArray⟩, .string ⟨y.salt.toArray⟩, .int .i64 0, .int .i64 0, .string ⟨#[]⟩, .string ⟨#[]⟩, .bool false, .bool false, .int .i64 0, .slice none 0 0, .slice none 0 0, .slice none 0 0]) (v := .string ⟨y.salt.toArray⟩) rfl (.tmp 88) (.tmp 77) rfl rfl rfl (by kernel_rfl) (S3.out.1) (by simp [Value.cells]) (by simp [Value.cells, Value.oneCell']) (by kernel_rfl) ?_; intro Y4 hj sj; have S4 : Hid (Blk Y4 (b + 1 + 1) 44 #[.int .i64 x.client, .int .i64 x.seq, .string ⟨x.token.toArray⟩, .int .i64 y.kind, .string ⟨y.name.toArray⟩, .string ⟨y.other.toArray⟩, .string ⟨y.word.toArray⟩, .string ⟨y.salt.toArray⟩, .int .i64 0, .int .i64 0, .string ⟨#[]⟩, .string ⟨#[]⟩, .bool false, .bool false, .int .i64 0, .slice none 0 0, .slice none 0 0, .slice none 0 0] ∧ Blk Y4 (b + 1) 44 #[.int .i64 0, .int .i64 0, .string ⟨#[]⟩, .int .i64 0, .string ⟨#[]⟩, .string ⟨#[]⟩, .string ⟨#[]⟩, .string ⟨#[]⟩, .int .i64 0, .int .i64 0, .string ⟨#[]⟩, .string ⟨#[]⟩, .bool false, .bool false, .int .i64 0, .slice none 0 0, .slice none 0 0, .slice none 0 0] ∧ Step [] [] w Y4) := ⟨hj, (S3.out.2.1).step sj (by simp), (S3.out.2.2).out1' sj (by have := HB.out; simp; omega)⟩; have SJ4 := Lib.hid sj; clear hj sj
 refine hK.out _ _ (Lib.hid (hHeld5.out.step SJ4.out (by have := H2.out.2.2.2.2; simp; omega))) (fun hHeld6 => ?_)
 clear hK K hHeld5
 try simp only [Act.put, LsA, LsB, LsC, LsD, LsE, LsF]
 refine wpAnyH_take (i := 26) (v := ?_) rfl (by kernel_rfl) (by kernel_rfl) (by kernel_rfl) (fun _ _ _ h => h) (Or.inl ⟨by rfl, ?_⟩) hHeld6 ?_
 rotate_left
 ·intro w hSw1
  try dsimp only at hSw1
  go_simp
  try (with_reducible rfl)
 try simp only [Act.put, LsA, LsB, LsC, LsD, LsE, LsF]
 refine wpAnyH_ready (rs := [27]) (by kernel_rfl) (by simp) ?_
 refine AllReadyH.cons rfl (fun K hK => ?_) AllReadyH.nil
 refine step_storeOff (T' := 44) (cs := #[.int .i64 x.client, .int .i64 x.seq, .string ⟨x.token.toArray⟩, .int .i64 y.kind, .string ⟨y.name.toArray⟩, .string ⟨y.other.toArray⟩, .string ⟨y.word.toArray⟩, .string ⟨y.salt.toArray⟩, .int .i64 0, .int .i64 0, .string ⟨#[]⟩, .string ⟨#[]⟩, .bool false, .bool false, .int .i64 0, .slice none 0 0, .slice none 0 0, .slice none 0 0]) (cs' := #[.int .i64 x.client, .int .i64 x.seq, .string ⟨x.token.toArray⟩, .int .i64 y.kind, .string ⟨y.name.toArray⟩, .string ⟨y.other.toArray⟩, .string ⟨y.word.toArray⟩, .string ⟨y.salt.toArray⟩, .int .i64 y.bytes, .int .i64 0, .string ⟨#[]⟩, .string ⟨#[]⟩, .bool false, .bool false, .int .i64 0, .slice none 0 0, .slice none 0 0, .slice none 0 0]) (v := .int .i64 y.bytes) rfl (.tmp 89) (.tmp 79) rfl rfl rfl (by kernel_rfl) (S4.out.1) (by simp [Value.cells]) (by simp [Value.cells, Value.oneCell']) (by kernel_rfl) ?_; intro Y5 hj sj; have S5 : Hid (Blk Y5 (b + 1 + 1) 44 #[.int .i64 x.client, .int .i64 x.seq, .string ⟨x.token.toArray⟩, .int .i64 y.kind, .string ⟨y.name.toArray⟩, .string ⟨y.other.toArray⟩, .string ⟨y.word.toArray⟩, .string ⟨y.salt.toArray⟩, .int .i64 y.bytes, .int .i64 0, .string ⟨#[]⟩, .string ⟨#[]⟩, .bool false, .bool false, .int .i64 0, .slice none 0 0, .slice none 0 0, .slice none 0 0] ∧ Blk Y5 (b + 1) 44 #[.int .i64 0, .int .i64 0, .string ⟨#[]⟩, .int .i64 0, .string ⟨#[]⟩, .string ⟨#[]⟩, .string ⟨#[]⟩, .string ⟨#[]⟩, .int .i64 0, .int .i64 0, .string ⟨#[]⟩, .string ⟨#[]⟩, .bool false, .bool false, .int .i64 0, .slice none 0 0, .slice none 0 0, .slice none 0 0] ∧ Step [] [] w Y5) := ⟨hj, (S4.out.2.1).step sj (by simp), (S4.out.2.2).out1' sj (by have := HB.out; simp; omega)⟩; have SJ5 := Lib.hid sj; clear hj sj
 refine hK.out _ _ (Lib.hid (hHeld6.out.step SJ5.out (by have := H2.out.2.2.2.2; simp; omega))) (fun hHeld7 => ?_)
 clear hK K hHeld6
 try simp only [Act.put, LsA, LsB, LsC, LsD, LsE, LsF]
 refine wpAnyH_take (i := 28) (v := ?_) rfl (by kernel_rfl) (by kernel_rfl) (by kernel_rfl) (fun _ _ _ h => h) (Or.inl ⟨by rfl, ?_⟩) hHeld7 ?_
 rotate_left
 ·intro w hSw1
  try dsimp only at hSw1
  go_simp
  try (with_reducible rfl)
 try simp only [Act.put, LsA, LsB, LsC, LsD, LsE, LsF]
 refine wpAnyH_ready (rs := [29]) (by kernel_rfl) (by simp) ?_
 refine AllReadyH.cons rfl (fun K hK => ?_) AllReadyH.nil
 refine step_storeOff (T' := 44) (cs := #[.int .i64 x.client, .int .i64 x.seq, .string ⟨x.token.toArray⟩, .int .i64 y.kind, .string ⟨y.name.toArray⟩, .string ⟨y.other.toArray⟩, .string ⟨y.word.toArray⟩, .string ⟨y.salt.toArray⟩, .int .i64 y.bytes, .int .i64 0, .string ⟨#[]⟩, .string ⟨#[]⟩, .bool false, .bool false, .int .i64 0, .slice none 0 0, .slice none 0 0, .slice none 0 0]) (cs' := #[.int .i64 x.client, .int .i64 x.seq, .string ⟨x.token.toArray⟩, .int .i64 y.kind, .string ⟨y.name.toArray⟩, .string ⟨y.other.toArray⟩, .string ⟨y.word.toArray⟩, .string ⟨y.salt.toArray⟩, .int .i64 y.bytes, .int .i64 y.keys, .string ⟨#[]⟩, .string ⟨#[]⟩, .bool false, .bool false, .int .i64 0, .slice none 0 0, .slice none 0 0, .slice none 0 0]) (v := .int .i64 y.keys) rfl (.tmp 90) (.tmp 81) rfl rfl rfl (by kernel_rfl) (S5.out.1) (by simp [Value.cells]) (by simp [Value.cells, Value.oneCell']) (by kernel_rfl) ?_; intro Y6 hj sj; have S6 : Hid (Blk Y6 (b + 1 + 1) 44 #[.int .i64 x.client, .int .i64 x.seq, .string ⟨x.token.toArray⟩, .int .i64 y.kind, .string ⟨y.name.toArray⟩, .string ⟨y.other.toArray⟩, .string ⟨y.word.toArray⟩, .string ⟨y.salt.toArray⟩, .int .i64 y.bytes, .int .i64 y.keys, .string ⟨#[]⟩, .string ⟨#[]⟩, .bool false, .bool false, .int .i64 0, .slice none 0 0, .slice none 0 0, .slice none 0 0] ∧ Blk Y6 (b + 1) 44 #[.int .i64 0, .int .i64 0, .string ⟨#[]⟩, .int .i64 0, .string ⟨#[]⟩, .string ⟨#[]⟩, .string ⟨#[]⟩, .string ⟨#[]⟩, .int .i64 0, .int .i64 0, .string ⟨#[]⟩, .string ⟨#[]⟩, .bool false, .bool false, .int .i64 0, .slice none 0 0, .slice none 0 0, .slice none 0 0] ∧ Step [] [] w Y6) := ⟨hj, (S5.out.2.1).step sj (by simp), (S5.out.2.2).out1' sj (by have := HB.out; simp; omega)⟩; have SJ6 := Lib.hid sj; clear hj sj
 refine hK.out _ _ (Lib.hid (hHeld7.out.step SJ6.out (by have := H2.out.2.2.2.2; simp; omega))) (fun hHeld8 => ?_)
 clear hK K hHeld7
 try simp only [Act.put, LsA, LsB, LsC, LsD, LsE, LsF]
 refine wpAnyH_take (i := 30) (v := ?_) rfl (by kernel_rfl) (by kernel_rfl) (by kernel_rfl) (fun _ _ _ h => h) (Or.inl ⟨by rfl, ?_⟩) hHeld8 ?_
 rotate_left
 ·intro w hSw1
  try dsimp only at hSw1
  go_simp
  try (with_reducible rfl)
 try simp only [Act.put, LsA, LsB, LsC, LsD, LsE, LsF]
 refine wpAnyH_ready (rs := [31]) (by kernel_rfl) (by simp) ?_
 refine AllReadyH.cons rfl (fun K hK => ?_) AllReadyH.nil
 refine step_storeOff (T' := 44) (cs := #[.int .i64 x.client, .int .i64 x.seq, .string ⟨x.token.toArray⟩, .int .i64 y.kind, .string ⟨y.name.toArray⟩, .string ⟨y.other.toArray⟩, .string ⟨y.word.toArray⟩, .string ⟨y.salt.toArray⟩, .int .i64 y.bytes, .int .i64 y.keys, .string ⟨#[]⟩, .string ⟨#[]⟩, .bool false, .bool false, .int .i64 0, .slice none 0 0, .slice none 0 0, .slice none 0 0]) (cs' := #[.int .i64 x.client, .int .i64 x.seq, .string ⟨x.token.toArray⟩, .int .i64 y.kind, .string ⟨y.name.toArray⟩, .string ⟨y.other.toArray⟩, .string ⟨y.word.toArray⟩, .string ⟨y.salt.toArray⟩, .int .i64 y.bytes, .int .i64 y.keys, .string ⟨y.gf.toArray⟩, .string ⟨y.gt.toArray⟩, .bool y.gr, .bool y.gw, .int .i64 0, .slice none 0 0, .slice none 0 0, .slice none 0 0]) (v := .agg #[.string ⟨y.gf.toArray⟩, .string ⟨y.gt.toArray⟩, .bool y.gr, .bool y.gw]) rfl (.tmp 91) (.tmp 83) rfl rfl rfl (by kernel_rfl) (S6.out.1) (by simp [Value.cells]) (by simp [Value.cells, Value.oneCell']) (by kernel_rfl) ?_; intro Y7 hj sj; have S7 : Hid (Blk Y7 (b + 1 + 1) 44 #[.int .i64 x.client, .int .i64 x.seq, .string ⟨x.token.toArray⟩, .int .i64 y.kind, .string ⟨y.name.toArray⟩, .string ⟨y.other.toArray⟩, .string ⟨y.word.toArray⟩, .string ⟨y.salt.toArray⟩, .int .i64 y.bytes, .int .i64 y.keys, .string ⟨y.gf.toArray⟩, .string ⟨y.gt.toArray⟩, .bool y.gr, .bool y.gw, .int .i64 0, .slice none 0 0, .slice none 0 0, .slice none 0 0] ∧ Blk Y7 (b + 1) 44 #[.int .i64 0, .int .i64 0, .string ⟨#[]⟩, .int .i64 0, .string ⟨#[]⟩, .string ⟨#[]⟩, .string ⟨#[]⟩, .string ⟨#[]⟩, .int .i64 0, .int .i64 0, .string ⟨#[]⟩, .string ⟨#[]⟩, .bool false, .bool false, .int .i64 0, .slice none 0 0, .slice none 0 0, .slice none 0 0] ∧ Step [] [] w Y7) := ⟨hj, (S6.out.2.1).step sj (by simp), (S6.out.2.2).out1' sj (by have := HB.out; simp; omega)⟩; have SJ7 := Lib.hid sj; clear hj sj
 refine hK.out _ _ (Lib.hid (hHeld8.out.step SJ7.out (by have := H2.out.2.2.2.2; simp; omega))) (fun hHeld9 => ?_)
 clear hK K hHeld8
 try simp only [Act.put, LsA, LsB, LsC, LsD, LsE, LsF]
 refine wpAnyH_done (by kernel_rfl) ?_ _
 have N := S7
 clear S0 S1 S2 S3 S4 S5 S6 S7
 go_wp2_with (first | (refine wpList_loadRow (T := 44) (b := b + 1 + 1) (T' := 44) (cs := #[.int .i64 x.client, .int .i64 x.seq, .string ⟨x.token.toArray⟩, .int .i64 y.kind, .string ⟨y.name.toArray⟩, .string ⟨y.other.toArray⟩, .string ⟨y.word.toArray⟩, .string ⟨y.salt.toArray⟩, .int .i64 y.bytes, .int .i64 y.keys, .string ⟨y.gf.toArray⟩, .string ⟨y.gt.toArray⟩, .bool y.gr, .bool y.gw, .int .i64 0, .slice none 0 0, .slice none 0 0, .slice none 0 0]) rfl (.tmp 3) rfl rfl Try.sCmd N.out.1 ?_) | (refine wpList_storeRow (T := 44) (b := b + 1) (T' := 44) (cs := #[.int .i64 0, .int .i64 0, .string ⟨#[]⟩, .int .i64 0, .string ⟨#[]⟩, .string ⟨#[]⟩, .string ⟨#[]⟩, .string ⟨#[]⟩, .int .i64 0, .int .i64 0, .string ⟨#[]⟩, .string ⟨#[]⟩, .bool false, .bool false, .int .i64 0, .slice none 0 0, .slice none 0 0, .slice none 0 0]) (vs := #[.int .i64 x.client, .int .i64 x.seq, .string ⟨x.token.toArray⟩, .int .i64 y.kind, .string ⟨y.name.toArray⟩, .string ⟨y.other.toArray⟩, .string ⟨y.word.toArray⟩, .string ⟨y.salt.toArray⟩, .int .i64 y.bytes, .int .i64 y.keys, .string ⟨y.gf.toArray⟩, .string ⟨y.gt.toArray⟩, .bool y.gr, .bool y.gw, .int .i64 0, .slice none 0 0, .slice none 0 0, .slice none 0 0]) rfl (.tmp 2) (.tmp 92) rfl rfl rfl Try.sCmd N.out.2.1 rfl (by simp [Value.oneCell']) ?_; intro U Q ss))
 have so := N.out.2.2.out1' ss (by have := HB.out; simp; omega)
 have hh := clean_head (x := x) (by simp [isK]; have := HK.out; omega)
 have hn := clean_nolists (x := x) (by have := HK.out; omega)
 have hr : (cleanC x).rev = 0 := by
  have h4 := HK.out
  have e1 : hasR x.kind = false := by simp [hasR]; omega
  unfold cleanC onlyC
  cases isK x.kind <;> simp [cmZ, e1]
 rw [← HY.out] at hh hn hr
 refine bodyPost_ret (v := .agg #[.int .i64 x.client, .int .i64 x.seq, .string ⟨x.token.toArray⟩, .int .i64 y.kind, .string ⟨y.name.toArray⟩, .string ⟨y.other.toArray⟩, .string ⟨y.word.toArray⟩, .string ⟨y.salt.toArray⟩, .int .i64 y.bytes, .int .i64 y.keys, .string ⟨y.gf.toArray⟩, .string ⟨y.gt.toArray⟩, .bool y.gr, .bool y.gw, .int .i64 0, .slice none 0 0, .slice none 0 0, .slice none 0 0]) ?_ rfl ⟨by rw [← HY.out]; simp [cmV, hh.1, hh.2.1, hh.2.2, hr], so⟩
 exact res_row rfl _ rfl Try.sCmd Q

set_option maxHeartbeats 8000000 in
theorem flat2_any (x : Cm) (a1 a2 a3 : Option Addr) (c1 c2 c3 : Nat) (w : World) (hk : x.kind = 2) (hr : RdC w x a1 a2 a3) (hl : LenC x) : Calls Try.prog 58 #[rqV x (.iface 134 (.agg #[.slice a1 x.ifs.length c1, .slice a2 x.thens.length c2, .slice a3 x.elses.length c3]))] w (FlatP (cleanC x) w) := by
 have HK := Lib.hid hk
 have hkx : x.kind = 2 := hk
 have HR := Lib.hid hr
 have HLN := Lib.hid hl
 clear hr hl
 clear hk
 have HKX := Lib.hid hkx
 clear hkx
 have q1 := rta21
 have q2 := rta22
 have A0 := blk3q w 99 44 44 #[.int .i64 x.client, .int .i64 x.seq, .string ⟨x.token.toArray⟩, .iface 134 (.agg #[.slice a1 x.ifs.length c1, .slice a2 x.thens.length c2, .slice a3 x.elses.length c3])] #[.int .i64 0, .int .i64 0, .string ⟨#[]⟩, .int .i64 0, .string ⟨#[]⟩, .string ⟨#[]⟩, .string ⟨#[]⟩, .string ⟨#[]⟩, .int .i64 0, .int .i64 0, .string ⟨#[]⟩, .string ⟨#[]⟩, .bool false, .bool false, .int .i64 0, .slice none 0 0, .slice none 0 0, .slice none 0 0] #[.int .i64 0, .int .i64 0, .string ⟨#[]⟩, .int .i64 0, .string ⟨#[]⟩, .string ⟨#[]⟩, .string ⟨#[]⟩, .string ⟨#[]⟩, .int .i64 0, .int .i64 0, .string ⟨#[]⟩, .string ⟨#[]⟩, .bool false, .bool false, .int .i64 0, .slice none 0 0, .slice none 0 0, .slice none 0 0]
 have A1 := (((Step.refl [] w).alloc (.cells #[.int .i64 x.client, .int .i64 x.seq, .string ⟨x.token.toArray⟩, .iface 134 (.agg #[.slice a1 x.ifs.length c1, .slice a2 x.thens.length c2, .slice a3 x.elses.length c3])] 99)).alloc (.cells #[.int .i64 0, .int .i64 0, .string ⟨#[]⟩, .int .i64 0, .string ⟨#[]⟩, .string ⟨#[]⟩, .string ⟨#[]⟩, .string ⟨#[]⟩, .int .i64 0, .int .i64 0, .string ⟨#[]⟩, .string ⟨#[]⟩, .bool false, .bool false, .int .i64 0, .slice none 0 0, .slice none 0 0, .slice none 0 0] 44)).alloc (.cells #[.int .i64 0, .int .i64 0, .string ⟨#[]⟩, .int .i64 0, .string ⟨#[]⟩, .string ⟨#[]⟩, .string ⟨#[]⟩, .string ⟨#[]⟩, .int .i64 0, .int .i64 0, .string ⟨#[]⟩, .string ⟨#[]⟩, .bool false, .bool false, .int .i64 0, .slice none 0 0, .slice none 0 0, .slice none 0 0] 44)
 have HA := Lib.hid (And.intro A0 A1)
 clear A0 A1
 go_enter Try.func58, Try.ntmps58
 go_upto_region 2 with (refine wpList_storeRow (T := 44) (b := w.heap.size + 1 + 1) (T' := 44) (cs := #[.int .i64 0, .int .i64 0, .string ⟨#[]⟩, .int .i64 0, .string ⟨#[]⟩, .string ⟨#[]⟩, .string ⟨#[]⟩, .string ⟨#[]⟩, .int .i64 0, .int .i64 0, .string ⟨#[]⟩, .string ⟨#[]⟩, .bool false, .bool false, .int .i64 0, .slice none 0 0, .slice none 0 0, .slice none 0 0]) (vs := #[.int .i64 x.client, .int .i64 x.seq, .string ⟨x.token.toArray⟩, .int .i64 0, .string ⟨#[]⟩, .string ⟨#[]⟩, .string ⟨#[]⟩, .string ⟨#[]⟩, .int .i64 0, .int .i64 0, .string ⟨#[]⟩, .string ⟨#[]⟩, .bool false, .bool false, .int .i64 0, .slice none 0 0, .slice none 0 0, .slice none 0 0]) rfl (.tmp 3) (.tmp 15) rfl rfl rfl Try.sCmd HA.out.1.2.2 rfl (by simp [Value.oneCell']) ?_; intro V vb ks)
 have H0 : Hid (Blk V w.heap.size 99 #[.int .i64 x.client, .int .i64 x.seq, .string ⟨x.token.toArray⟩, .iface 134 (.agg #[.slice a1 x.ifs.length c1, .slice a2 x.thens.length c2, .slice a3 x.elses.length c3])] ∧ Blk V (w.heap.size + 1) 44 #[.int .i64 0, .int .i64 0, .string ⟨#[]⟩, .int .i64 0, .string ⟨#[]⟩, .string ⟨#[]⟩, .string ⟨#[]⟩, .string ⟨#[]⟩, .int .i64 0, .int .i64 0, .string ⟨#[]⟩, .string ⟨#[]⟩, .bool false, .bool false, .int .i64 0, .slice none 0 0, .slice none 0 0, .slice none 0 0] ∧ Blk V (w.heap.size + 1 + 1) 44 #[.int .i64 x.client, .int .i64 x.seq, .string ⟨x.token.toArray⟩, .int .i64 0, .string ⟨#[]⟩, .string ⟨#[]⟩, .string ⟨#[]⟩, .string ⟨#[]⟩, .int .i64 0, .int .i64 0, .string ⟨#[]⟩, .string ⟨#[]⟩, .bool false, .bool false, .int .i64 0, .slice none 0 0, .slice none 0 0, .slice none 0 0] ∧ Step [] [] w V) := ⟨HA.out.1.1.step ks (by simp; omega), HA.out.1.2.1.step ks (by simp), vb, HA.out.2.out1' ks (by simp; omega)⟩
 clear HA vb ks
 obtain ⟨b, hb⟩ : ∃ b, b = w.heap.size := ⟨_, rfl⟩
 have H1 : Hid (Blk V b 99 #[.int .i64 x.client, .int .i64 x.seq, .string ⟨x.token.toArray⟩, .iface 134 (.agg #[.slice a1 x.ifs.length c1, .slice a2 x.thens.length c2, .slice a3 x.elses.length c3])] ∧ Blk V (b + 1) 44 #[.int .i64 0, .int .i64 0, .string ⟨#[]⟩, .int .i64 0, .string ⟨#[]⟩, .string ⟨#[]⟩, .string ⟨#[]⟩, .string ⟨#[]⟩, .int .i64 0, .int .i64 0, .string ⟨#[]⟩, .string ⟨#[]⟩, .bool false, .bool false, .int .i64 0, .slice none 0 0, .slice none 0 0, .slice none 0 0] ∧ Blk V (b + 1 + 1) 44 #[.int .i64 x.client, .int .i64 x.seq, .string ⟨x.token.toArray⟩, .int .i64 0, .string ⟨#[]⟩, .string ⟨#[]⟩, .string ⟨#[]⟩, .string ⟨#[]⟩, .int .i64 0, .int .i64 0, .string ⟨#[]⟩, .string ⟨#[]⟩, .bool false, .bool false, .int .i64 0, .slice none 0 0, .slice none 0 0, .slice none 0 0] ∧ Step [] [] w V ∧ b = w.heap.size) := by
  rw [hb]
  exact ⟨H0.out.1, H0.out.2.1, H0.out.2.2.1, H0.out.2.2.2, rfl⟩
 rw [← hb]
 clear hb H0
 have HB := Lib.hid H1.out.2.2.2.2
 have cc := (H1.out.1).cell
 have c0 := cc 0
 have c1 := cc 1
 have c2 := cc 2
 have c3 := cc 3
 clear cc
 simp only [List.getElem?_toArray, List.getElem?_cons_zero, List.getElem?_cons_succ] at c0 c1 c2 c3
 have cl := (H1.out.1).lt
 go_upto_region 10 with fail
 clear q1 q2
 clear c0 c1 c2 c3 cl
 obtain ⟨b4, hb4⟩ : ∃ b4, b4 = V.heap.size := ⟨_, rfl⟩
 obtain ⟨V2, hV2⟩ : ∃ V2, V2 = V.alloc (.cells #[.slice a1 x.ifs.length c1, .slice a2 x.thens.length c2, .slice a3 x.elses.length c3] 134) := ⟨_, rfl⟩
 have H2 : Hid (Blk V2 b4 134 #[.slice a1 x.ifs.length c1, .slice a2 x.thens.length c2, .slice a3 x.elses.length c3] ∧ Blk V2 (b + 1) 44 #[.int .i64 0, .int .i64 0, .string ⟨#[]⟩, .int .i64 0, .string ⟨#[]⟩, .string ⟨#[]⟩, .string ⟨#[]⟩, .string ⟨#[]⟩, .int .i64 0, .int .i64 0, .string ⟨#[]⟩, .string ⟨#[]⟩, .bool false, .bool false, .int .i64 0, .slice none 0 0, .slice none 0 0, .slice none 0 0] ∧ Blk V2 (b + 1 + 1) 44 #[.int .i64 x.client, .int .i64 x.seq, .string ⟨x.token.toArray⟩, .int .i64 0, .string ⟨#[]⟩, .string ⟨#[]⟩, .string ⟨#[]⟩, .string ⟨#[]⟩, .int .i64 0, .int .i64 0, .string ⟨#[]⟩, .string ⟨#[]⟩, .bool false, .bool false, .int .i64 0, .slice none 0 0, .slice none 0 0, .slice none 0 0] ∧ Step [] [] w V2 ∧ b + 1 + 1 < b4) := by
  rw [hV2, hb4]
  exact ⟨Blk.new _ _ _, H1.out.2.1.alloc _, H1.out.2.2.1.alloc _, H1.out.2.2.2.1.alloc _, H1.out.2.2.1.lt⟩
 rw [← hV2, ← hb4]
 clear hV2 hb4
 refine wp_region_held_drew (S := fun V => Hid (Blk V b4 134 #[.slice a1 x.ifs.length c1, .slice a2 x.thens.length c2, .slice a3 x.elses.length c3])) (by kernel_rfl) (Lib.hid H2.out.1.drew) (fun hHeld => ?_)
 refine wpAnyH_take (i := 0) (v := ?_) rfl (by kernel_rfl) (by kernel_rfl) (by kernel_rfl) (fun _ _ _ h => h) (Or.inl ⟨by rfl, ?_⟩) hHeld ?_
 rotate_left
 ·intro w hSw1
  have tc := hSw1.out.cell
  have t0 := tc 0
  have t1 := tc 1
  have t2 := tc 2
  clear tc
  simp only [List.getElem?_toArray, List.getElem?_cons_zero, List.getElem?_cons_succ] at t0 t1 t2
  have tl := hSw1.out.lt
  go_simp
  try (with_reducible rfl)
 try simp only [Act.put, LsA, LsB, LsC, LsD, LsE, LsF]
 refine wpAnyH_take (i := 2) (v := ?_) rfl (by kernel_rfl) (by kernel_rfl) (by kernel_rfl) (fun _ _ _ h => h) (Or.inl ⟨by rfl, ?_⟩) hHeld ?_
 rotate_left
 ·intro w hSw1
  try dsimp only at hSw1
  go_simp
  try (with_reducible rfl)
 try simp only [Act.put, LsA, LsB, LsC, LsD, LsE, LsF]
 refine wpAnyH_take (i := 3) (v := ?_) rfl (by kernel_rfl) (by kernel_rfl) (by kernel_rfl) (fun _ _ _ h => h) (Or.inl ⟨by rfl, ?_⟩) hHeld ?_
 rotate_left
 ·intro w hSw1
  have tc := hSw1.out.cell
  have t0 := tc 0
  have t1 := tc 1
  have t2 := tc 2
  clear tc
  simp only [List.getElem?_toArray, List.getElem?_cons_zero, List.getElem?_cons_succ] at t0 t1 t2
  have tl := hSw1.out.lt
  go_simp
  try (with_reducible rfl)
 try simp only [Act.put, LsA, LsB, LsC, LsD, LsE, LsF]
 refine wpAnyH_take (i := 5) (v := ?_) rfl (by kernel_rfl) (by kernel_rfl) (by kernel_rfl) (fun _ _ _ h => h) (Or.inl ⟨by rfl, ?_⟩) hHeld ?_
 rotate_left
 ·intro w hSw1
  try dsimp only at hSw1
  go_simp
  try (with_reducible rfl)
 try simp only [Act.put, LsA, LsB, LsC, LsD, LsE, LsF]
 refine wpAnyH_take (i := 6) (v := ?_) rfl (by kernel_rfl) (by kernel_rfl) (by kernel_rfl) (fun _ _ _ h => h) (Or.inl ⟨by rfl, ?_⟩) hHeld ?_
 rotate_left
 ·intro w hSw1
  have tc := hSw1.out.cell
  have t0 := tc 0
  have t1 := tc 1
  have t2 := tc 2
  clear tc
  simp only [List.getElem?_toArray, List.getElem?_cons_zero, List.getElem?_cons_succ] at t0 t1 t2
  have tl := hSw1.out.lt
  go_simp
  try (with_reducible rfl)
 try simp only [Act.put, LsA, LsB, LsC, LsD, LsE, LsF]
 refine wpAnyH_take (i := 8) (v := ?_) rfl (by kernel_rfl) (by kernel_rfl) (by kernel_rfl) (fun _ _ _ h => h) (Or.inl ⟨by rfl, ?_⟩) hHeld ?_
 rotate_left
 ·intro w hSw1
  try dsimp only at hSw1
  go_simp
  try (with_reducible rfl)
 try simp only [Act.put, LsA, LsB, LsC, LsD, LsE, LsF]
 refine wpAnyH_take (i := 9) (v := ?_) rfl (by kernel_rfl) (by kernel_rfl) (by kernel_rfl) (fun _ _ _ h => h) (Or.inl ⟨by rfl, ?_⟩) hHeld ?_
 rotate_left
 ·intro w hSw1
  have tc := hSw1.out.cell
  have t0 := tc 0
  have t1 := tc 1
  have t2 := tc 2
  clear tc
  simp only [List.getElem?_toArray, List.getElem?_cons_zero, List.getElem?_cons_succ] at t0 t1 t2
  have tl := hSw1.out.lt
  go_simp
  try (with_reducible rfl)
 try simp only [Act.put, LsA, LsB, LsC, LsD, LsE, LsF]
 refine wpAnyH_ready (rs := [1]) (by kernel_rfl) (by simp) ?_
 refine AllReadyH.cons rfl (fun K hK => ?_) AllReadyH.nil
 go_simp
 refine (kind2_any _ _ _ _).mono ?_; rintro e X1 ⟨rfl, k1⟩; have G1 : Hid (Blk X1 b4 134 #[.slice a1 x.ifs.length c1, .slice a2 x.thens.length c2, .slice a3 x.elses.length c3] ∧ Blk X1 (b + 1) 44 #[.int .i64 0, .int .i64 0, .string ⟨#[]⟩, .int .i64 0, .string ⟨#[]⟩, .string ⟨#[]⟩, .string ⟨#[]⟩, .string ⟨#[]⟩, .int .i64 0, .int .i64 0, .string ⟨#[]⟩, .string ⟨#[]⟩, .bool false, .bool false, .int .i64 0, .slice none 0 0, .slice none 0 0, .slice none 0 0] ∧ Blk X1 (b + 1 + 1) 44 #[.int .i64 x.client, .int .i64 x.seq, .string ⟨x.token.toArray⟩, .int .i64 0, .string ⟨#[]⟩, .string ⟨#[]⟩, .string ⟨#[]⟩, .string ⟨#[]⟩, .int .i64 0, .int .i64 0, .string ⟨#[]⟩, .string ⟨#[]⟩, .bool false, .bool false, .int .i64 0, .slice none 0 0, .slice none 0 0, .slice none 0 0] ∧ Step [] [] w X1 ∧ V2.heap.size ≤ X1.heap.size) := ⟨hHeld.out.step k1 (by simp), H2.out.2.1.drew.step k1 (by simp), H2.out.2.2.1.drew.step k1 (by simp), H2.out.2.2.2.1.drew.trans k1, k1.size⟩; clear k1
 go_wp2_with fail
 refine hK.out _ _ (Lib.hid G1.out.1) (fun hHeld2 => ?_)
 clear hK K hHeld
 try simp only [Act.put, LsA, LsB, LsC, LsD, LsE, LsF]
 refine wpAnyH_take (i := 11) (v := ?_) rfl (by kernel_rfl) (by kernel_rfl) (by kernel_rfl) (fun _ _ _ h => h) (Or.inl ⟨by rfl, ?_⟩) hHeld2 ?_
 rotate_left
 ·intro w hSw1
  try dsimp only at hSw1
  go_simp
  try (with_reducible rfl)
 try simp only [Act.put, LsA, LsB, LsC, LsD, LsE, LsF]
 refine wpAnyH_ready (rs := [4]) (by kernel_rfl) (by simp) ?_
 refine AllReadyH.cons rfl (fun K hK => ?_) AllReadyH.nil
 go_simp
 refine (cloneP_any x.ifs a1 c1 _ (HR.out.i.step0 G1.out.2.2.2.1) HLN.out.i).mono ?_; rintro e X2 ⟨d1, e1, rfl, r1, k2⟩; have G2 : Hid (Blk X2 b4 134 #[.slice a1 x.ifs.length c1, .slice a2 x.thens.length c2, .slice a3 x.elses.length c3] ∧ Blk X2 (b + 1) 44 #[.int .i64 0, .int .i64 0, .string ⟨#[]⟩, .int .i64 0, .string ⟨#[]⟩, .string ⟨#[]⟩, .string ⟨#[]⟩, .string ⟨#[]⟩, .int .i64 0, .int .i64 0, .string ⟨#[]⟩, .string ⟨#[]⟩, .bool false, .bool false, .int .i64 0, .slice none 0 0, .slice none 0 0, .slice none 0 0] ∧ Blk X2 (b + 1 + 1) 44 #[.int .i64 x.client, .int .i64 x.seq, .string ⟨x.token.toArray⟩, .int .i64 0, .string ⟨#[]⟩, .string ⟨#[]⟩, .string ⟨#[]⟩, .string ⟨#[]⟩, .int .i64 0, .int .i64 0, .string ⟨#[]⟩, .string ⟨#[]⟩, .bool false, .bool false, .int .i64 0, .slice none 0 0, .slice none 0 0, .slice none 0 0] ∧ Step [] [] w X2 ∧ V2.heap.size ≤ X2.heap.size ∧ Rd X2 4 d1 x.ifs.length (cpcs x.ifs) ∧ (∀ g ∈ blks d1, V2.heap.size ≤ g)) := ⟨hHeld2.out.step k2 (by simp), G1.out.2.1.step k2 (by simp), G1.out.2.2.1.step k2 (by simp), (G1.out.2.2.2.1.trans k2).drop (by simp), Nat.le_trans G1.out.2.2.2.2 k2.size, r1, fun g hg => (by rcases k2.fresh g hg with h | h <;> first | exact Nat.le_trans G1.out.2.2.2.2 h | cases h)⟩; clear r1 k2
 go_wp2_with fail
 refine hK.out _ _ (Lib.hid G2.out.1) (fun hHeld3 => ?_)
 clear hK K hHeld2
 try simp only [Act.put, LsA, LsB, LsC, LsD, LsE, LsF]
 refine wpAnyH_ready (rs := [7]) (by kernel_rfl) (by simp) ?_
 refine AllReadyH.cons rfl (fun K hK => ?_) AllReadyH.nil
 go_simp
 refine (plains_any x.thens a2 c2 _ (HR.out.t.step0 G2.out.2.2.2.1) HLN.out.t).mono ?_; rintro e X3 ⟨d2, e2, rfl, r2, k3⟩; have G3 : Hid (Blk X3 b4 134 #[.slice a1 x.ifs.length c1, .slice a2 x.thens.length c2, .slice a3 x.elses.length c3] ∧ Blk X3 (b + 1) 44 #[.int .i64 0, .int .i64 0, .string ⟨#[]⟩, .int .i64 0, .string ⟨#[]⟩, .string ⟨#[]⟩, .string ⟨#[]⟩, .string ⟨#[]⟩, .int .i64 0, .int .i64 0, .string ⟨#[]⟩, .string ⟨#[]⟩, .bool false, .bool false, .int .i64 0, .slice none 0 0, .slice none 0 0, .slice none 0 0] ∧ Blk X3 (b + 1 + 1) 44 #[.int .i64 x.client, .int .i64 x.seq, .string ⟨x.token.toArray⟩, .int .i64 0, .string ⟨#[]⟩, .string ⟨#[]⟩, .string ⟨#[]⟩, .string ⟨#[]⟩, .int .i64 0, .int .i64 0, .string ⟨#[]⟩, .string ⟨#[]⟩, .bool false, .bool false, .int .i64 0, .slice none 0 0, .slice none 0 0, .slice none 0 0] ∧ Step [] [] w X3 ∧ V2.heap.size ≤ X3.heap.size ∧ Rd X3 4 d1 x.ifs.length (cpcs x.ifs) ∧ Rd X3 7 d2 x.thens.length (dacs (x.thens.map actL)) ∧ (∀ g ∈ blks d2, V2.heap.size ≤ g)) := ⟨hHeld3.out.step k3 (by simp), G2.out.2.1.step k3 (by simp), G2.out.2.2.1.step k3 (by simp), (G2.out.2.2.2.1.trans k3).drop (by simp), Nat.le_trans G2.out.2.2.2.2.1 k3.size, G2.out.2.2.2.2.2.1.step0 k3, r2, fun g hg => (by rcases k3.fresh g hg with h | h <;> first | exact Nat.le_trans G2.out.2.2.2.2.1 h | cases h)⟩; clear r2 k3
 go_wp2_with fail
 refine hK.out _ _ (Lib.hid G3.out.1) (fun hHeld4 => ?_)
 clear hK K hHeld3
 try simp only [Act.put, LsA, LsB, LsC, LsD, LsE, LsF]
 refine wpAnyH_ready (rs := [10]) (by kernel_rfl) (by simp) ?_
 refine AllReadyH.cons rfl (fun K hK => ?_) AllReadyH.nil
 go_simp
 refine (plains_any x.elses a3 c3 _ (HR.out.e.step0 G3.out.2.2.2.1) HLN.out.e).mono ?_; rintro e X4 ⟨d3, e3, rfl, r3, k4⟩; have G4 : Hid (Blk X4 b4 134 #[.slice a1 x.ifs.length c1, .slice a2 x.thens.length c2, .slice a3 x.elses.length c3] ∧ Blk X4 (b + 1) 44 #[.int .i64 0, .int .i64 0, .string ⟨#[]⟩, .int .i64 0, .string ⟨#[]⟩, .string ⟨#[]⟩, .string ⟨#[]⟩, .string ⟨#[]⟩, .int .i64 0, .int .i64 0, .string ⟨#[]⟩, .string ⟨#[]⟩, .bool false, .bool false, .int .i64 0, .slice none 0 0, .slice none 0 0, .slice none 0 0] ∧ Blk X4 (b + 1 + 1) 44 #[.int .i64 x.client, .int .i64 x.seq, .string ⟨x.token.toArray⟩, .int .i64 0, .string ⟨#[]⟩, .string ⟨#[]⟩, .string ⟨#[]⟩, .string ⟨#[]⟩, .int .i64 0, .int .i64 0, .string ⟨#[]⟩, .string ⟨#[]⟩, .bool false, .bool false, .int .i64 0, .slice none 0 0, .slice none 0 0, .slice none 0 0] ∧ Step [] [] w X4 ∧ Rd X4 4 d1 x.ifs.length (cpcs x.ifs) ∧ Rd X4 7 d2 x.thens.length (dacs (x.thens.map actL)) ∧ Rd X4 7 d3 x.elses.length (dacs (x.elses.map actL)) ∧ (∀ g ∈ blks d3, V2.heap.size ≤ g)) := ⟨hHeld4.out.step k4 (by simp), G3.out.2.1.step k4 (by simp), G3.out.2.2.1.step k4 (by simp), (G3.out.2.2.2.1.trans k4).drop (by simp), G3.out.2.2.2.2.2.1.step0 k4, G3.out.2.2.2.2.2.2.1.step0 k4, r3, fun g hg => (by rcases k4.fresh g hg with h | h <;> first | exact Nat.le_trans G3.out.2.2.2.2.1 h | cases h)⟩; clear r3 k4; have rc := (G4.out.2.2.1).cell; have r0 := rc 0; have r1 := rc 1; have r2 := rc 2; have r3 := rc 3; have r4 := rc 4; have r5 := rc 5; have r6 := rc 6; have r7 := rc 7; have r8 := rc 8; have r9 := rc 9; have r10 := rc 10; have r11 := rc 11; have r12 := rc 12; have r13 := rc 13; have r14 := rc 14; have r15 := rc 15; have r16 := rc 16; have r17 := rc 17; clear rc; simp only [List.getElem?_toArray, List.getElem?_cons_zero, List.getElem?_cons_succ] at r0 r1 r2 r3 r4 r5 r6 r7 r8 r9 r10 r11 r12 r13 r14 r15 r16 r17; have rl := (G4.out.2.2.1).lt; have rfz := (G4.out.2.2.1).frozen; have rf0 := rfz 0; have rf1 := rfz 1; have rf2 := rfz 2; have rf3 := rfz 3; have rf4 := rfz 4; have rf5 := rfz 5; have rf6 := rfz 6; have rf7 := rfz 7; have rf8 := rfz 8; have rf9 := rfz 9; have rf10 := rfz 10; have rf11 := rfz 11; have rf12 := rfz 12; have rf13 := rfz 13; have rf14 := rfz 14; have rf15 := rfz 15; have rf16 := rfz 16; have rf17 := rfz 17; clear rfz
 go_wp2_with fail
 refine hK.out _ _ (Lib.hid G4.out.1) (fun hHeld5 => ?_)
 clear hK K hHeld4
 try simp only [Act.put, LsA, LsB, LsC, LsD, LsE, LsF]
 refine wpAnyH_ready (rs := [12]) (by kernel_rfl) (by simp) ?_
 refine AllReadyH.cons rfl (fun K hK => ?_) AllReadyH.nil
 go_simp
 skip
 go_wp2_with fail
 refine hK.out _ _ (Lib.hid (Blk.far (p := ⟨b + 1 + 1, 3, none⟩) hHeld5.out (by simp; have := H2.out.2.2.2.2; omega) _)) (fun hHeld6 => ?_)
 clear hK K hHeld5
 try simp only [Act.put, LsA, LsB, LsC, LsD, LsE, LsF]
 refine wpAnyH_take (i := 13) (v := ?_) rfl (by kernel_rfl) (by kernel_rfl) (by kernel_rfl) (fun _ _ _ h => h) (Or.inl ⟨by rfl, ?_⟩) hHeld6 ?_
 rotate_left
 ·intro w hSw1
  try dsimp only at hSw1
  go_simp
  try (with_reducible rfl)
 try simp only [Act.put, LsA, LsB, LsC, LsD, LsE, LsF]
 refine wpAnyH_ready (rs := [14]) (by kernel_rfl) (by simp) ?_
 refine AllReadyH.cons rfl (fun K hK => ?_) AllReadyH.nil
 go_simp
 skip
 go_wp2_with fail
 refine hK.out _ _ (Lib.hid (Blk.far (p := ⟨b + 1 + 1, 15, none⟩) hHeld6.out (by simp; have := H2.out.2.2.2.2; omega) _)) (fun hHeld7 => ?_)
 clear hK K hHeld6
 try simp only [Act.put, LsA, LsB, LsC, LsD, LsE, LsF]
 refine wpAnyH_take (i := 15) (v := ?_) rfl (by kernel_rfl) (by kernel_rfl) (by kernel_rfl) (fun _ _ _ h => h) (Or.inl ⟨by rfl, ?_⟩) hHeld7 ?_
 rotate_left
 ·intro w hSw1
  try dsimp only at hSw1
  go_simp
  try (with_reducible rfl)
 try simp only [Act.put, LsA, LsB, LsC, LsD, LsE, LsF]
 refine wpAnyH_ready (rs := [16]) (by kernel_rfl) (by simp) ?_
 refine AllReadyH.cons rfl (fun K hK => ?_) AllReadyH.nil
 go_simp
 skip
 go_wp2_with fail
 refine hK.out _ _ (Lib.hid (Blk.far (p := ⟨b + 1 + 1, 16, none⟩) hHeld7.out (by simp; have := H2.out.2.2.2.2; omega) _)) (fun hHeld8 => ?_)
 clear hK K hHeld7
 try simp only [Act.put, LsA, LsB, LsC, LsD, LsE, LsF]
 refine wpAnyH_take (i := 17) (v := ?_) rfl (by kernel_rfl) (by kernel_rfl) (by kernel_rfl) (fun _ _ _ h => h) (Or.inl ⟨by rfl, ?_⟩) hHeld8 ?_
 rotate_left
 ·intro w hSw1
  try dsimp only at hSw1
  go_simp
  try (with_reducible rfl)
 try simp only [Act.put, LsA, LsB, LsC, LsD, LsE, LsF]
 refine wpAnyH_ready (rs := [18]) (by kernel_rfl) (by simp) ?_
 refine AllReadyH.cons rfl (fun K hK => ?_) AllReadyH.nil
 go_simp
 skip
 go_wp2_with fail
 refine hK.out _ _ (Lib.hid (Blk.far (p := ⟨b + 1 + 1, 17, none⟩) hHeld8.out (by simp; have := H2.out.2.2.2.2; omega) _)) (fun hHeld9 => ?_)
 clear hK K hHeld8
 try simp only [Act.put, LsA, LsB, LsC, LsD, LsE, LsF]
 refine wpAnyH_done (by kernel_rfl) ?_ _
 go_upto_region 20 with fail
 clear r0 r1 r2 r3 r4 r5 r6 r7 r8 r9 r10 r11 r12 r13 r14 r15 r16 r17 rl rf0 rf1 rf2 rf3 rf4 rf5 rf6 rf7 rf8 rf9 rf10 rf11 rf12 rf13 rf14 rf15 rf16 rf17
 obtain ⟨W, hW⟩ : ∃ W, W = ((((X4.setCell ⟨b + 1 + 1, 3, none⟩ (.int .i64 2)).setCell ⟨b + 1 + 1, 15, none⟩ (.slice d1 x.ifs.length e1)).setCell ⟨b + 1 + 1, 16, none⟩ (.slice d2 x.thens.length e2)).setCell ⟨b + 1 + 1, 17, none⟩ (.slice d3 x.elses.length e3)) := ⟨_, rfl⟩
 have ss0 : Step [b + 1 + 1] [b + 1 + 1] X4 W := by
  rw [hW]
  iterate 4 refine Step.setCell ?_ (.inl (by simp)) _
  exact Step.refl _ _
 have N : Hid (Blk W (b + 1 + 1) 44 #[.int .i64 x.client, .int .i64 x.seq, .string ⟨x.token.toArray⟩, .int .i64 2, .string ⟨#[]⟩, .string ⟨#[]⟩, .string ⟨#[]⟩, .string ⟨#[]⟩, .int .i64 0, .int .i64 0, .string ⟨#[]⟩, .string ⟨#[]⟩, .bool false, .bool false, .int .i64 0, .slice d1 x.ifs.length e1, .slice d2 x.thens.length e2, .slice d3 x.elses.length e3] ∧ Blk W (b + 1) 44 #[.int .i64 0, .int .i64 0, .string ⟨#[]⟩, .int .i64 0, .string ⟨#[]⟩, .string ⟨#[]⟩, .string ⟨#[]⟩, .string ⟨#[]⟩, .int .i64 0, .int .i64 0, .string ⟨#[]⟩, .string ⟨#[]⟩, .bool false, .bool false, .int .i64 0, .slice none 0 0, .slice none 0 0, .slice none 0 0] ∧ Step [] [] w W) := ⟨by rw [hW]; have hq := ((((G4.out.2.2.1.set 3 (.int .i64 2)).set 15 (.slice d1 x.ifs.length e1)).set 16 (.slice d2 x.thens.length e2)).set 17 (.slice d3 x.elses.length e3)); simpa using hq, G4.out.2.1.step ss0 (by simp), G4.out.2.2.2.1.out1' ss0 (by have := HB.out; simp; omega)⟩
 have HSS := Lib.hid ss0
 rw [← hW]
 clear hW ss0
 go_wp2_with (first | (refine wpList_loadRow (T := 44) (b := b + 1 + 1) (T' := 44) (cs := #[.int .i64 x.client, .int .i64 x.seq, .string ⟨x.token.toArray⟩, .int .i64 2, .string ⟨#[]⟩, .string ⟨#[]⟩, .string ⟨#[]⟩, .string ⟨#[]⟩, .int .i64 0, .int .i64 0, .string ⟨#[]⟩, .string ⟨#[]⟩, .bool false, .bool false, .int .i64 0, .slice d1 x.ifs.length e1, .slice d2 x.thens.length e2, .slice d3 x.elses.length e3]) rfl (.tmp 3) rfl rfl Try.sCmd N.out.1 ?_) | (refine wpList_storeRow (T := 44) (b := b + 1) (T' := 44) (cs := #[.int .i64 0, .int .i64 0, .string ⟨#[]⟩, .int .i64 0, .string ⟨#[]⟩, .string ⟨#[]⟩, .string ⟨#[]⟩, .string ⟨#[]⟩, .int .i64 0, .int .i64 0, .string ⟨#[]⟩, .string ⟨#[]⟩, .bool false, .bool false, .int .i64 0, .slice none 0 0, .slice none 0 0, .slice none 0 0]) (vs := #[.int .i64 x.client, .int .i64 x.seq, .string ⟨x.token.toArray⟩, .int .i64 2, .string ⟨#[]⟩, .string ⟨#[]⟩, .string ⟨#[]⟩, .string ⟨#[]⟩, .int .i64 0, .int .i64 0, .string ⟨#[]⟩, .string ⟨#[]⟩, .bool false, .bool false, .int .i64 0, .slice d1 x.ifs.length e1, .slice d2 x.thens.length e2, .slice d3 x.elses.length e3]) rfl (.tmp 2) (.tmp 92) rfl rfl rfl Try.sCmd N.out.2.1 rfl (by simp [Value.oneCell']) ?_; intro U Q ss))
 have so := N.out.2.2.out1' ss (by have := HB.out; simp; omega)
 have hc : (cleanC x).ifs = x.ifs ∧ (cleanC x).thens = x.thens.map actL ∧ (cleanC x).elses = x.elses.map actL := by simp [cleanC, onlyC, isK, hasT, HKX.out]
 have hlt := H2.out.2.2.1.lt
 refine bodyPost_ret (v := .agg #[.int .i64 x.client, .int .i64 x.seq, .string ⟨x.token.toArray⟩, .int .i64 2, .string ⟨#[]⟩, .string ⟨#[]⟩, .string ⟨#[]⟩, .string ⟨#[]⟩, .int .i64 0, .int .i64 0, .string ⟨#[]⟩, .string ⟨#[]⟩, .bool false, .bool false, .int .i64 0, .slice d1 x.ifs.length e1, .slice d2 x.thens.length e2, .slice d3 x.elses.length e3]) ?_ rfl ⟨d1, e1, d2, e2, d3, e3, ?_, ⟨?_, ?_, ?_⟩, so⟩
 ·exact res_row rfl _ rfl Try.sCmd Q
 ·rw [hc.1, hc.2.1, hc.2.2, List.length_map, List.length_map]
  simp [cleanC, onlyC, isK, hasN, hasO, hasW, hasS, hasQ, hasP, hasG, hasR, HKX.out]
 ·rw [hc.1]
  exact (G4.out.2.2.2.2.1.step HSS.out (fun g hg e => by have := G2.out.2.2.2.2.2.2 g hg; simp at e; omega)).step ss (fun g hg e => by have := G2.out.2.2.2.2.2.2 g hg; simp at e; omega)
 ·rw [hc.2.1, List.length_map]
  exact (G4.out.2.2.2.2.2.1.step HSS.out (fun g hg e => by have := G3.out.2.2.2.2.2.2.2 g hg; simp at e; omega)).step ss (fun g hg e => by have := G3.out.2.2.2.2.2.2.2 g hg; simp at e; omega)
 ·rw [hc.2.2, List.length_map]
  exact (G4.out.2.2.2.2.2.2.1.step HSS.out (fun g hg e => by have := G4.out.2.2.2.2.2.2.2 g hg; simp at e; omega)).step ss (fun g hg e => by have := G4.out.2.2.2.2.2.2.2 g hg; simp at e; omega)

theorem IsReq.flat {w : World} {y : Cm} {v : Value} (h : IsReq w y v) : ∀ W, Step [] [] w W → Calls Try.prog 58 #[v] W (FlatP y W) := by
 intro W k
 obtain ⟨a1, c1, a2, c2, a3, c3, rfl, hr⟩ := h.at_
 have hc := h.clean
 have none_ : ∀ {e W'}, y.kind ≠ 2 → (e = .returned (cmV (cleanC y) (.slice none 0 0) (.slice none 0 0) (.slice none 0 0)) ∧ Step [] [] W W') → FlatP y W e W' := fun {e W'} hk hh => by
  have hn := clean_nolists hk
  rw [hc] at hn hh
  refine ⟨none, 0, none, 0, none, 0, ?_, RdC.nil _ _ hn.1 hn.2.1 hn.2.2, hh.2⟩
  rw [hn.1, hn.2.1, hn.2.2]
  exact hh.1
 rcases isK_cases h.kind with hk | hk | hk | hk
 ·rw [bodyV, if_pos hk]
  exact (flat1_any y W hk).mono fun e W' hh => none_ (by omega) hh
 ·rw [bodyV, if_neg (by omega), if_pos hk]
  have := flat2_any y a1 a2 a3 c1 c2 c3 W hk (hr.step k) h.len
  rwa [hc] at this
 ·rw [bodyV, if_neg (by omega), if_neg (by omega), if_pos hk]
  exact (flat3_any y W hk).mono fun e W' hh => none_ (by omega) hh
 ·rw [bodyV, if_neg (by omega), if_neg (by omega), if_neg (by omega)]
  exact (flat4_any y W hk).mono fun e W' hh => none_ (by omega) hh
end Go.Proofs.Ytjfaplmojpldhaa
