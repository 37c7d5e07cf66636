/-
  IsApp, MustShot, and whether it panicked. No condition.
-/
import Derived.Test.YtihklmomipidaaaMsgOpen
import Derived.Defers
import Derived.Recover
namespace Go.Proofs.Ytihklmomipidaaa
open Go.RowKit
set_option linter.unusedSimpArgs false
set_option linter.unusedVariables false
set_option maxRecDepth 100000

def appZ : Value := .agg #[.int .i64 0, .int .i64 0, .int .i64 0, .int .i64 0, .int .i64 0, .int .i64 0, .slice none 0 0]
def shotZ : Value := .agg #[.int .i64 0, .int .i64 0, .int .i64 0, .int .i64 0, .int .i64 0, .string ⟨#[]⟩]
theorem tp1 (u : Value) (W : World) : (Instr.typeAssert (.iface 57 u) 27 51 false).run Try.prog W = .halt (.panic (.iface 15 (.pointer (some ⟨W.heap.size, 0, none⟩)))) (W.alloc (.cells #[typeHandle Try.prog 27, typeHandle Try.prog 57, typeHandle Try.prog 51, strVal ""] 99)) := by kernel_rfl
theorem tp2 (u : Value) (W : World) : (Instr.typeAssert (.iface 55 u) 27 51 false).run Try.prog W = .halt (.panic (.iface 15 (.pointer (some ⟨W.heap.size, 0, none⟩)))) (W.alloc (.cells #[typeHandle Try.prog 27, typeHandle Try.prog 55, typeHandle Try.prog 51, strVal ""] 99)) := by kernel_rfl
theorem tp3 (u : Value) (W : World) : (Instr.typeAssert (.iface 47 u) 27 51 false).run Try.prog W = .halt (.panic (.iface 15 (.pointer (some ⟨W.heap.size, 0, none⟩)))) (W.alloc (.cells #[typeHandle Try.prog 27, typeHandle Try.prog 47, typeHandle Try.prog 51, strVal ""] 99)) := by kernel_rfl
theorem tp4 (u : Value) (W : World) : (Instr.typeAssert (.iface 62 u) 27 51 false).run Try.prog W = .halt (.panic (.iface 15 (.pointer (some ⟨W.heap.size, 0, none⟩)))) (W.alloc (.cells #[typeHandle Try.prog 27, typeHandle Try.prog 62, typeHandle Try.prog 51, strVal ""] 99)) := by kernel_rfl
theorem tp0 (W : World) : (Instr.typeAssert .nilIface 27 51 false).run Try.prog W = .halt (.panic (.iface 15 (.pointer (some ⟨W.heap.size, 0, none⟩)))) (W.alloc (.cells #[typeHandle Try.prog 27, .pointer none, typeHandle Try.prog 51, strVal ""] 99)) := by kernel_rfl
theorem tp5 (u : Value) (W : World) : (Instr.typeAssert (.iface 51 u) 27 51 false).run Try.prog W = .ok u W := by kernel_rfl

theorem mustShot_no (v : Value) (w : World) (o : Obj) (hp : ∀ W, W.heap.size = w.heap.size + 1 → (Instr.typeAssert v 27 51 false).run Try.prog W = .halt (.panic (.iface 15 (.pointer (some ⟨W.heap.size, 0, none⟩)))) (W.alloc o)) :
    Calls Try.prog 43 #[v] w fun e w' => (∃ pv, e = .panicked [{ v := .iface 15 pv, recovered := false }]) ∧ Step [] [] w w' := by
  have h1 := hp (w.alloc (.cells #[.int .i64 0, .int .i64 0, .int .i64 0, .int .i64 0, .int .i64 0, .string ⟨#[]⟩] 51)) (by simp)
  clear hp
  go_enter Try.func43, Try.ntmps43
  go_wp2_with fail
  exact ⟨rfl, ⟨_, rfl⟩, ((Step.refl [] w).alloc _).alloc _⟩
theorem mustShot_yes (a b c d e : Int) (t : List UInt8) (w : World) : Calls Try.prog 43 #[.iface 51 (.agg #[.int .i64 a, .int .i64 b, .int .i64 c, .int .i64 d, .int .i64 e, Str t])] w fun ee w' => ee = .returned (.agg #[.int .i64 a, .int .i64 b, .int .i64 c, .int .i64 d, .int .i64 e, Str t]) ∧ Step [] [] w w' := by
  have h1 := tp5 (.agg #[.int .i64 a, .int .i64 b, .int .i64 c, .int .i64 d, .int .i64 e, Str t])
  go_enter Try.func43, Try.ntmps43
  go_wp2_with fail
  refine bodyPost_ret (v := .agg #[.int .i64 a, .int .i64 b, .int .i64 c, .int .i64 d, .int .i64 e, Str t]) ?_ rfl ⟨rfl, (Step.refl [] w).alloc _⟩
  simp [results, Try.results43, go_sem]
theorem catch_fell (p : Addr) (x : Bool) (u : TypeId) (pv : Value) (older : List PanicEntry) (w : World) (hc : w.cell? p = some (.bool x)) (hz : w.frozen? p = false) :
    CallsD Try.prog 42 #[.pointer (some p)] (.panicking ({ v := .iface u pv, recovered := false } :: older)) w fun e u' w' =>
      e = .returned (.tuple #[]) ∧ u' = .panicking ({ v := .iface u pv, recovered := true } :: older) ∧ w' = w.setCell p (.bool true) := by
  refine callsD_of_wpS Try.func42 rfl fun c₀ cs hu => ?_
  apply wpS_seq
  apply wpS_region
  simp [wpOpsS, go_sem, recoverD, hu, Try.ntmps42, Exit.thenS]
  refine wpS_cond (t := true) (by simp [Act.eval, Array.replicate]) ?_
  simp only [if_true]
  apply wpS_region
  simp [wpOpsS, go_sem, hc, hz, bodyPostS, results, Try.results42]
theorem catch_still (p : Addr) (w : World) :
    CallsD Try.prog 42 #[.pointer (some p)] .returning w fun e u' w' => e = .returned (.tuple #[]) ∧ u' = .returning ∧ w' = w := by
  refine callsD_of_wpS Try.func42 rfl fun c₀ cs hu => ?_
  apply wpS_seq
  apply wpS_region
  simp [wpOpsS, go_sem, recoverD, hu, Try.ntmps42, Exit.thenS]
  refine wpS_cond (t := false) (by simp [Act.eval, Array.replicate]) ?_
  simp only [Bool.false_eq_true, if_false]
  refine wpS_of_wp (wp_skip ?_)
  cases c₀
  simp_all [bodyPostS, results, Try.results42]
theorem must_no (v : Value) (w : World) (hS : ∀ W, Calls Try.prog 43 #[v] W fun e w' => (∃ pv, e = .panicked [{ v := .iface 15 pv, recovered := false }]) ∧ Step [] [] W w') :
    Calls Try.prog 20 #[v] w fun e w' => e = .returned (.tuple #[shotZ, .bool true]) ∧ Step [] [] w w' := by
  have hmf : ∀ (fn : Fn) (first cap : Array Value) (w : World), (Instr.makeFunc fn first cap).run Try.prog w = .ok (.func fn first cap) w := fun _ _ _ _ => rfl
  go_enter_defers Try.func20, Try.ntmps20
  go_wp2_with fail
  obtain ⟨b, hb⟩ : ∃ b, b = w.heap.size := ⟨_, rfl⟩
  obtain ⟨V, hV⟩ : ∃ V, V = ((w.alloc (.cells #[.int .i64 0, .int .i64 0, .int .i64 0, .int .i64 0, .int .i64 0, .string ⟨#[]⟩] 51)).alloc (.cells #[.bool false] 4)) := ⟨_, rfl⟩
  have H0 : Hid (Blk V b 51 #[.int .i64 0, .int .i64 0, .int .i64 0, .int .i64 0, .int .i64 0, .string ⟨#[]⟩] ∧ Blk V (b + 1) 4 #[.bool false] ∧ Step [] [] w V ∧ b = w.heap.size) := by
    rw [hV, hb]
    exact ⟨(blk2 w _ _ _ _).1, (blk2 w _ _ _ _).2, ((Step.refl [] w).alloc _).alloc _, rfl⟩
  rw [← hV, ← hb]
  clear hV hb
  refine (hS _).mono ?_
  rintro e w1 ⟨⟨pv, rfl⟩, k1⟩
  have H1 : Hid (Blk w1 b 51 #[.int .i64 0, .int .i64 0, .int .i64 0, .int .i64 0, .int .i64 0, .string ⟨#[]⟩] ∧ Blk w1 (b + 1) 4 #[.bool false] ∧ Step [] [] w w1) := ⟨H0.out.1.step k1 (by simp), H0.out.2.1.step k1 (by simp), H0.out.2.2.1.trans k1⟩
  have HB := Lib.hid H0.out.2.2.2
  clear k1 H0
  have z0 := H1.out.1.cell 0
  have z1 := H1.out.1.cell 1
  have z2 := H1.out.1.cell 2
  have z3 := H1.out.1.cell 3
  have z4 := H1.out.1.cell 4
  have z5 := H1.out.1.cell 5
  have zl := H1.out.1.lt
  have f0 := H1.out.1.frozen 0
  have f1 := H1.out.1.frozen 1
  have f2 := H1.out.1.frozen 2
  have f3 := H1.out.1.frozen 3
  have f4 := H1.out.1.frozen 4
  have f5 := H1.out.1.frozen 5
  have y0 := H1.out.2.1.cell 0
  have yl := H1.out.2.1.lt
  have g0 := H1.out.2.1.frozen 0
  simp only [List.getElem?_toArray, List.getElem?_cons_zero, List.getElem?_cons_succ] at z0 z1 z2 z3 z4 z5 y0
  go_wp2_with fail
  refine leaves_cons (f := 42) (args := #[.pointer (some ⟨b + 1, 0, none⟩)]) (by simp) (by simp [go_sem]) ?_
  refine (catch_fell ⟨b + 1, 0, none⟩ false _ pv [] w1 y0 g0).mono ?_
  rintro e u' w'' ⟨rfl, rfl, rfl⟩
  have ss : Step [b + 1] [b + 1] w1 (w1.setCell ⟨b + 1, 0, none⟩ (.bool true)) := (Step.refl _ w1).setCell (.inl (by simp)) _
  have so := H1.out.2.2.out1 ss (by have := HB.out; omega)
  have P0 : (w1.setCell ⟨b + 1, 0, none⟩ (.bool true)).cell? ⟨b, 0, none⟩ = some (.int .i64 0) := by rw [World.cell?_setCell_other _ _ _ _ (by simp)]; exact z0
  simp [Leaves, settle, results, Try.results20, go_sem, z0, z1, z2, z3, z4, z5, y0, g0, yl]
  exact ⟨rfl, so⟩
set_option maxHeartbeats 4000000 in
theorem must_yes (a b c d e : Int) (t : List UInt8) (w : World) :
    Calls Try.prog 20 #[.iface 51 (.agg #[.int .i64 a, .int .i64 b, .int .i64 c, .int .i64 d, .int .i64 e, Str t])] w fun ee w' => ee = .returned (.tuple #[.agg #[.int .i64 a, .int .i64 b, .int .i64 c, .int .i64 d, .int .i64 e, Str t], .bool false]) ∧ Step [] [] w w' := by
  have hmf : ∀ (fn : Fn) (first cap : Array Value) (w : World), (Instr.makeFunc fn first cap).run Try.prog w = .ok (.func fn first cap) w := fun _ _ _ _ => rfl
  go_enter_defers Try.func20, Try.ntmps20
  go_wp2_with fail
  obtain ⟨bb, hb⟩ : ∃ bb, bb = w.heap.size := ⟨_, rfl⟩
  obtain ⟨V, hV⟩ : ∃ V, V = ((w.alloc (.cells #[.int .i64 0, .int .i64 0, .int .i64 0, .int .i64 0, .int .i64 0, .string ⟨#[]⟩] 51)).alloc (.cells #[.bool false] 4)) := ⟨_, rfl⟩
  have H0 : Hid (Blk V bb 51 #[.int .i64 0, .int .i64 0, .int .i64 0, .int .i64 0, .int .i64 0, .string ⟨#[]⟩] ∧ Blk V (bb + 1) 4 #[.bool false] ∧ Step [] [] w V ∧ bb = w.heap.size) := by
    rw [hV, hb]
    exact ⟨(blk2 w _ _ _ _).1, (blk2 w _ _ _ _).2, ((Step.refl [] w).alloc _).alloc _, rfl⟩
  rw [← hV, ← hb]
  clear hV hb
  refine (mustShot_yes a b c d e t _).mono ?_
  rintro ee w1 ⟨rfl, k1⟩
  have H1 : Hid (Blk w1 bb 51 #[.int .i64 0, .int .i64 0, .int .i64 0, .int .i64 0, .int .i64 0, .string ⟨#[]⟩] ∧ Blk w1 (bb + 1) 4 #[.bool false] ∧ Step [] [] w w1) := ⟨H0.out.1.step k1 (by simp), H0.out.2.1.step k1 (by simp), H0.out.2.2.1.trans k1⟩
  have HB := Lib.hid H0.out.2.2.2
  clear k1 H0
  have z0 := H1.out.1.cell 0
  have z1 := H1.out.1.cell 1
  have z2 := H1.out.1.cell 2
  have z3 := H1.out.1.cell 3
  have z4 := H1.out.1.cell 4
  have z5 := H1.out.1.cell 5
  have zl := H1.out.1.lt
  have f0 := H1.out.1.frozen 0
  have f1 := H1.out.1.frozen 1
  have f2 := H1.out.1.frozen 2
  have f3 := H1.out.1.frozen 3
  have f4 := H1.out.1.frozen 4
  have f5 := H1.out.1.frozen 5
  have y0 := H1.out.2.1.cell 0
  have yl := H1.out.2.1.lt
  have g0 := H1.out.2.1.frozen 0
  simp only [List.getElem?_toArray, List.getElem?_cons_zero, List.getElem?_cons_succ] at z0 z1 z2 z3 z4 z5 y0
  go_wp2_with fail
  obtain ⟨U, hU⟩ : ∃ U, U = (((((((w1.setCell ⟨bb, 0, none⟩ (.int .i64 a)).setCell ⟨bb, 1, none⟩ (.int .i64 b)).setCell ⟨bb, 2, none⟩ (.int .i64 c)).setCell ⟨bb, 3, none⟩ (.int .i64 d)).setCell ⟨bb, 4, none⟩ (.int .i64 e)).setCell ⟨bb, 5, none⟩ (Str t)).setCell ⟨bb + 1, 0, none⟩ (.bool false)) := ⟨_, rfl⟩
  have HU : Hid (Blk U bb 51 #[.int .i64 a, .int .i64 b, .int .i64 c, .int .i64 d, .int .i64 e, Str t] ∧ Blk U (bb + 1) 4 #[.bool false] ∧ Step [] [] w U) := by
    rw [hU]
    refine ⟨by have q := (((((((H1.out.1.set 0 (.int .i64 a)).set 1 (.int .i64 b)).set 2 (.int .i64 c)).set 3 (.int .i64 d)).set 4 (.int .i64 e)).set 5 (Str t)).far (p := ⟨bb + 1, 0, none⟩) (by simp) (.bool false)); simpa using q, by have q := (((((((H1.out.2.1.far (p := ⟨bb, 0, none⟩) (by simp) (.int .i64 a)).far (p := ⟨bb, 1, none⟩) (by simp) (.int .i64 b)).far (p := ⟨bb, 2, none⟩) (by simp) (.int .i64 c)).far (p := ⟨bb, 3, none⟩) (by simp) (.int .i64 d)).far (p := ⟨bb, 4, none⟩) (by simp) (.int .i64 e)).far (p := ⟨bb, 5, none⟩) (by simp) (Str t)).set 0 (.bool false)); simpa using q, ?_⟩
    have q : Step [bb, bb + 1] [bb, bb + 1] w1 (((((((w1.setCell ⟨bb, 0, none⟩ (.int .i64 a)).setCell ⟨bb, 1, none⟩ (.int .i64 b)).setCell ⟨bb, 2, none⟩ (.int .i64 c)).setCell ⟨bb, 3, none⟩ (.int .i64 d)).setCell ⟨bb, 4, none⟩ (.int .i64 e)).setCell ⟨bb, 5, none⟩ (Str t)).setCell ⟨bb + 1, 0, none⟩ (.bool false)) := by (iterate 7 refine Step.setCell ?_ (.inl (by simp)) _); exact Step.refl _ _
    have hbb := HB.out
    exact ⟨q.os.trans H1.out.2.2.os, q.tape.trans H1.out.2.2.tape, q.output.trans H1.out.2.2.output, Nat.le_trans H1.out.2.2.size q.size, fun g hg _ => by
      refine (q.block g (Nat.lt_of_lt_of_le hg H1.out.2.2.size) fun hm => ?_).trans (H1.out.2.2.block g hg (by simp))
      simp at hm
      omega, fun g hg => by simp at hg⟩
  rw [← hU]
  clear hU z0 z1 z2 z3 z4 z5 zl f0 f1 f2 f3 f4 f5 y0 yl g0
  have z0 := HU.out.1.cell 0
  have z1 := HU.out.1.cell 1
  have z2 := HU.out.1.cell 2
  have z3 := HU.out.1.cell 3
  have z4 := HU.out.1.cell 4
  have z5 := HU.out.1.cell 5
  have y0 := HU.out.2.1.cell 0
  simp only [List.getElem?_toArray, List.getElem?_cons_zero, List.getElem?_cons_succ] at z0 z1 z2 z3 z4 z5 y0
  refine leaves_cons (f := 42) (args := #[.pointer (some ⟨bb + 1, 0, none⟩)]) (by simp) (by simp [go_sem]) ?_
  refine (catch_still ⟨bb + 1, 0, none⟩ _).mono ?_
  rintro ee u' w'' ⟨rfl, rfl, rfl⟩
  simp [Leaves, settle, results, Try.results20, go_sem, z0, z1, z2, z3, z4, z5, y0]
  exact HU.out.2.2
theorem isApp_no (v : Value) (w : World) (hp : ∀ W, (Instr.typeAssert v 27 47 true).run Try.prog W = .ok (.tuple #[appZ, .bool false]) W) :
    Calls Try.prog 19 #[v] w fun e w' => e = .returned (.tuple #[appZ, .bool false]) ∧ Step [] [] w w' := by
  unfold appZ at hp ⊢
  go_enter Try.func19, Try.ntmps19
  go_wp2_with fail
  refine bodyPost_ret (v := .tuple #[.agg #[.int .i64 0, .int .i64 0, .int .i64 0, .int .i64 0, .int .i64 0, .int .i64 0, .slice none 0 0], .bool false]) ?_ rfl ⟨rfl, ?_⟩
  · simp [results, Try.results19, go_sem]
  · repeat (first | exact Step.refl _ _ | refine Step.setCell ?_ (.inr (by simp)) _ | refine Step.alloc ?_ _)
theorem isApp_yes (a b c d e f : Int) (s : Option Addr) (n cap : Nat) (w : World) :
    Calls Try.prog 19 #[.iface 47 (.agg #[.int .i64 a, .int .i64 b, .int .i64 c, .int .i64 d, .int .i64 e, .int .i64 f, .slice s n cap])] w fun ee w' => ee = .returned (.tuple #[.agg #[.int .i64 a, .int .i64 b, .int .i64 c, .int .i64 d, .int .i64 e, .int .i64 f, .slice s n cap], .bool true]) ∧ Step [] [] w w' := by
  have hp := ta33 (.agg #[.int .i64 a, .int .i64 b, .int .i64 c, .int .i64 d, .int .i64 e, .int .i64 f, .slice s n cap])
  go_enter Try.func19, Try.ntmps19
  go_wp2_with fail
  refine bodyPost_ret (v := .tuple #[.agg #[.int .i64 a, .int .i64 b, .int .i64 c, .int .i64 d, .int .i64 e, .int .i64 f, .slice s n cap], .bool true]) ?_ rfl ⟨rfl, ?_⟩
  · simp [results, Try.results19, go_sem]
  · repeat (first | exact Step.refl _ _ | refine Step.setCell ?_ (.inr (by simp)) _ | refine Step.alloc ?_ _)
end Go.Proofs.Ytihklmomipidaaa
