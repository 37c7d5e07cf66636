/-
  IsTxn, MustLogin, and whether it panicked. No condition.
-/
import Derived.Test.YtifjnpdnnfdcoaaReqD
import Derived.Defers
import Derived.Recover
namespace Go.Proofs.Ytifjnpdnnfdcoaa
open Go.RowKit
set_option linter.unusedSimpArgs false
set_option linter.unusedVariables false
set_option maxRecDepth 100000

def txnZ : Value := .agg #[.slice none 0 0, .slice none 0 0, .slice none 0 0]
def logZ : Value := .agg #[.string ⟨#[]⟩, .string ⟨#[]⟩]
theorem blk2l (w : World) (t0 t1 : TypeId) (c0 c1 : Array Value) : Blk ((w.alloc (.cells c0 t0)).alloc (.cells c1 t1)) w.heap.size t0 c0 ∧ Blk ((w.alloc (.cells c0 t0)).alloc (.cells c1 t1)) (w.heap.size + 1) t1 c1 := by
  have s1 : ∀ o, (w.alloc o).heap.size = w.heap.size + 1 := fun o => by simp
  refine ⟨(Blk.new w t0 c0).alloc _, ?_⟩
  have := Blk.new (w.alloc (.cells c0 t0)) t1 c1
  rwa [s1] at this
theorem rtp2 (u : Value) (W : World) : (Instr.typeAssert (.iface 55 u) 33 59 false).run Try.prog W = .halt (.panic (.iface 15 (.pointer (some ⟨W.heap.size, 0, none⟩)))) (W.alloc (.cells #[typeHandle Try.prog 33, typeHandle Try.prog 55, typeHandle Try.prog 59, strVal ""] 146)) := by kernel_rfl
theorem rtp3 (u : Value) (W : World) : (Instr.typeAssert (.iface 74 u) 33 59 false).run Try.prog W = .halt (.panic (.iface 15 (.pointer (some ⟨W.heap.size, 0, none⟩)))) (W.alloc (.cells #[typeHandle Try.prog 33, typeHandle Try.prog 74, typeHandle Try.prog 59, strVal ""] 146)) := by kernel_rfl
theorem rtp4 (u : Value) (W : World) : (Instr.typeAssert (.iface 85 u) 33 59 false).run Try.prog W = .halt (.panic (.iface 15 (.pointer (some ⟨W.heap.size, 0, none⟩)))) (W.alloc (.cells #[typeHandle Try.prog 33, typeHandle Try.prog 85, typeHandle Try.prog 59, strVal ""] 146)) := by kernel_rfl
theorem rtp0 (W : World) : (Instr.typeAssert .nilIface 33 59 false).run Try.prog W = .halt (.panic (.iface 15 (.pointer (some ⟨W.heap.size, 0, none⟩)))) (W.alloc (.cells #[typeHandle Try.prog 33, .pointer none, typeHandle Try.prog 59, strVal ""] 146)) := by kernel_rfl
theorem rtp1 (u : Value) (W : World) : (Instr.typeAssert (.iface 59 u) 33 59 false).run Try.prog W = .ok u W := by kernel_rfl

theorem mustLogin_no (v : Value) (w : World) (o : Obj) (hp : ∀ W, W.heap.size = w.heap.size + 1 → (Instr.typeAssert v 33 59 false).run Try.prog W = .halt (.panic (.iface 15 (.pointer (some ⟨W.heap.size, 0, none⟩)))) (W.alloc o)) :
    Calls Try.prog 66 #[v] w fun e w' => (∃ pv, e = .panicked [{ v := .iface 15 pv, recovered := false }]) ∧ Step [] [] w w' := by
  have h1 := hp (w.alloc (.cells #[.string ⟨#[]⟩, .string ⟨#[]⟩] 59)) (by simp)
  clear hp
  go_enter Try.func66, Try.ntmps66
  go_wp2_with fail
  exact ⟨rfl, ⟨_, rfl⟩, ((Step.refl [] w).alloc _).alloc _⟩
theorem mustLogin_yes (s t : List UInt8) (w : World) : Calls Try.prog 66 #[.iface 59 (.agg #[Str s, Str t])] w fun ee w' => ee = .returned (.agg #[Str s, Str t]) ∧ Step [] [] w w' := by
  have h1 := rtp1 (.agg #[Str s, Str t])
  go_enter Try.func66, Try.ntmps66
  go_wp2_with fail
  refine bodyPost_ret (v := .agg #[Str s, Str t]) ?_ rfl ⟨rfl, (Step.refl [] w).alloc _⟩
  simp [results, Try.results66, go_sem]
theorem lcatch_fell (p : Addr) (x : Bool) (u : TypeId) (pv : Value) (older : List PanicEntry) (w : World) (hc : w.cell? p = some (.bool x)) (hz : w.frozen? p = false) :
    CallsD Try.prog 65 #[.pointer (some p)] (.panicking ({ v := .iface u pv, recovered := false } :: older)) w fun e u' w' =>
      e = .returned (.tuple #[]) ∧ u' = .panicking ({ v := .iface u pv, recovered := true } :: older) ∧ w' = w.setCell p (.bool true) := by
  refine callsD_of_wpS Try.func65 rfl fun c₀ cs hu => ?_
  apply wpS_seq
  apply wpS_region
  simp [wpOpsS, go_sem, recoverD, hu, Try.ntmps65, Exit.thenS]
  refine wpS_cond (t := true) (by simp [Act.eval, Array.replicate]) ?_
  simp only [if_true]
  apply wpS_region
  simp [wpOpsS, go_sem, hc, hz, bodyPostS, results, Try.results65]
theorem lcatch_still (p : Addr) (w : World) :
    CallsD Try.prog 65 #[.pointer (some p)] .returning w fun e u' w' => e = .returned (.tuple #[]) ∧ u' = .returning ∧ w' = w := by
  refine callsD_of_wpS Try.func65 rfl fun c₀ cs hu => ?_
  apply wpS_seq
  apply wpS_region
  simp [wpOpsS, go_sem, recoverD, hu, Try.ntmps65, Exit.thenS]
  refine wpS_cond (t := false) (by simp [Act.eval, Array.replicate]) ?_
  simp only [Bool.false_eq_true, if_false]
  refine wpS_of_wp (wp_skip ?_)
  cases c₀
  simp_all [bodyPostS, results, Try.results65]
theorem login_no (v : Value) (w : World) (hS : ∀ W, Calls Try.prog 66 #[v] W fun e w' => (∃ pv, e = .panicked [{ v := .iface 15 pv, recovered := false }]) ∧ Step [] [] W w') :
    Calls Try.prog 21 #[v] w fun e w' => e = .returned (.tuple #[logZ, .bool true]) ∧ Step [] [] w w' := by
  have hmf : ∀ (fn : Fn) (first cap : Array Value) (w : World), (Instr.makeFunc fn first cap).run Try.prog w = .ok (.func fn first cap) w := fun _ _ _ _ => rfl
  go_enter_defers Try.func21, Try.ntmps21
  go_wp2_with fail
  obtain ⟨b, hb⟩ : ∃ b, b = w.heap.size := ⟨_, rfl⟩
  obtain ⟨V, hV⟩ : ∃ V, V = ((w.alloc (.cells #[.string ⟨#[]⟩, .string ⟨#[]⟩] 59)).alloc (.cells #[.bool false] 4)) := ⟨_, rfl⟩
  have H0 : Hid (Blk V b 59 #[.string ⟨#[]⟩, .string ⟨#[]⟩] ∧ Blk V (b + 1) 4 #[.bool false] ∧ Step [] [] w V ∧ b = w.heap.size) := by
    rw [hV, hb]
    exact ⟨(blk2l w _ _ _ _).1, (blk2l w _ _ _ _).2, ((Step.refl [] w).alloc _).alloc _, rfl⟩
  rw [← hV, ← hb]
  clear hV hb
  refine (hS _).mono ?_
  rintro e w1 ⟨⟨pv, rfl⟩, k1⟩
  have H1 : Hid (Blk w1 b 59 #[.string ⟨#[]⟩, .string ⟨#[]⟩] ∧ Blk w1 (b + 1) 4 #[.bool false] ∧ Step [] [] w w1) := ⟨H0.out.1.step k1 (by simp), H0.out.2.1.step k1 (by simp), H0.out.2.2.1.trans k1⟩
  have HB := Lib.hid H0.out.2.2.2
  clear k1 H0
  have z0 := H1.out.1.cell 0
  have z1 := H1.out.1.cell 1
  have zl := H1.out.1.lt
  have f0 := H1.out.1.frozen 0
  have f1 := H1.out.1.frozen 1
  have y0 := H1.out.2.1.cell 0
  have yl := H1.out.2.1.lt
  have g0 := H1.out.2.1.frozen 0
  simp only [List.getElem?_toArray, List.getElem?_cons_zero, List.getElem?_cons_succ] at z0 z1 y0
  go_wp2_with fail
  refine leaves_cons (f := 65) (args := #[.pointer (some ⟨b + 1, 0, none⟩)]) (by simp) (by simp [go_sem]) ?_
  refine (lcatch_fell ⟨b + 1, 0, none⟩ false _ pv [] w1 y0 g0).mono ?_
  rintro e u' w'' ⟨rfl, rfl, rfl⟩
  have ss : Step [b + 1] [b + 1] w1 (w1.setCell ⟨b + 1, 0, none⟩ (.bool true)) := (Step.refl _ w1).setCell (.inl (by simp)) _
  have so := H1.out.2.2.out1' ss (by have := HB.out; simp; omega)
  have P0 : (w1.setCell ⟨b + 1, 0, none⟩ (.bool true)).cell? ⟨b, 0, none⟩ = some (.string ⟨#[]⟩) := by rw [World.cell?_setCell_other _ _ _ _ (by simp)]; exact z0
  simp [Leaves, settle, results, Try.results21, go_sem, z0, z1, y0, g0, yl]
  exact ⟨rfl, so⟩
set_option maxHeartbeats 4000000 in
theorem login_yes (s t : List UInt8) (w : World) :
    Calls Try.prog 21 #[.iface 59 (.agg #[Str s, Str t])] w fun ee w' => ee = .returned (.tuple #[.agg #[Str s, Str t], .bool false]) ∧ Step [] [] w w' := by
  have hmf : ∀ (fn : Fn) (first cap : Array Value) (w : World), (Instr.makeFunc fn first cap).run Try.prog w = .ok (.func fn first cap) w := fun _ _ _ _ => rfl
  go_enter_defers Try.func21, Try.ntmps21
  go_wp2_with fail
  obtain ⟨bb, hb⟩ : ∃ bb, bb = w.heap.size := ⟨_, rfl⟩
  obtain ⟨V, hV⟩ : ∃ V, V = ((w.alloc (.cells #[.string ⟨#[]⟩, .string ⟨#[]⟩] 59)).alloc (.cells #[.bool false] 4)) := ⟨_, rfl⟩
  have H0 : Hid (Blk V bb 59 #[.string ⟨#[]⟩, .string ⟨#[]⟩] ∧ Blk V (bb + 1) 4 #[.bool false] ∧ Step [] [] w V ∧ bb = w.heap.size) := by
    rw [hV, hb]
    exact ⟨(blk2l w _ _ _ _).1, (blk2l w _ _ _ _).2, ((Step.refl [] w).alloc _).alloc _, rfl⟩
  rw [← hV, ← hb]
  clear hV hb
  refine (mustLogin_yes s t _).mono ?_
  rintro ee w1 ⟨rfl, k1⟩
  have H1 : Hid (Blk w1 bb 59 #[.string ⟨#[]⟩, .string ⟨#[]⟩] ∧ Blk w1 (bb + 1) 4 #[.bool false] ∧ Step [] [] w w1) := ⟨H0.out.1.step k1 (by simp), H0.out.2.1.step k1 (by simp), H0.out.2.2.1.trans k1⟩
  have HB := Lib.hid H0.out.2.2.2
  clear k1 H0
  have z0 := H1.out.1.cell 0
  have z1 := H1.out.1.cell 1
  have zl := H1.out.1.lt
  have f0 := H1.out.1.frozen 0
  have f1 := H1.out.1.frozen 1
  have y0 := H1.out.2.1.cell 0
  have yl := H1.out.2.1.lt
  have g0 := H1.out.2.1.frozen 0
  simp only [List.getElem?_toArray, List.getElem?_cons_zero, List.getElem?_cons_succ] at z0 z1 y0
  go_wp2_with fail
  obtain ⟨U, hU⟩ : ∃ U, U = (((w1.setCell ⟨bb, 0, none⟩ (Str s)).setCell ⟨bb, 1, none⟩ (Str t)).setCell ⟨bb + 1, 0, none⟩ (.bool false)) := ⟨_, rfl⟩
  have HU : Hid (Blk U bb 59 #[Str s, Str t] ∧ Blk U (bb + 1) 4 #[.bool false] ∧ Step [] [] w U) := by
    rw [hU]
    refine ⟨by have q := (((H1.out.1.set 0 (Str s)).set 1 (Str t)).far (p := ⟨bb + 1, 0, none⟩) (by simp) (.bool false)); simpa using q, by have q := (((H1.out.2.1.far (p := ⟨bb, 0, none⟩) (by simp) (Str s)).far (p := ⟨bb, 1, none⟩) (by simp) (Str t)).set 0 (.bool false)); simpa using q, ?_⟩
    have q : Step [bb, bb + 1] [bb, bb + 1] w1 (((w1.setCell ⟨bb, 0, none⟩ (Str s)).setCell ⟨bb, 1, none⟩ (Str t)).setCell ⟨bb + 1, 0, none⟩ (.bool false)) := by (iterate 3 refine Step.setCell ?_ (.inl (by simp)) _); exact Step.refl _ _
    have hbb := HB.out
    exact H1.out.2.2.out1' q (by simp; omega)
  rw [← hU]
  clear hU z0 z1 zl f0 f1 y0 yl g0
  have z0 := HU.out.1.cell 0
  have z1 := HU.out.1.cell 1
  have y0 := HU.out.2.1.cell 0
  simp only [List.getElem?_toArray, List.getElem?_cons_zero, List.getElem?_cons_succ] at z0 z1 y0
  refine leaves_cons (f := 65) (args := #[.pointer (some ⟨bb + 1, 0, none⟩)]) (by simp) (by simp [go_sem]) ?_
  refine (lcatch_still ⟨bb + 1, 0, none⟩ _).mono ?_
  rintro ee u' w'' ⟨rfl, rfl, rfl⟩
  simp [Leaves, settle, results, Try.results21, go_sem, z0, z1, y0]
  exact HU.out.2.2
theorem isTxn_no (v : Value) (w : World) (hp : ∀ W, (Instr.typeAssert v 33 55 true).run Try.prog W = .ok (.tuple #[txnZ, .bool false]) W) :
    Calls Try.prog 20 #[v] w fun e w' => e = .returned (.tuple #[txnZ, .bool false]) ∧ Step [] [] w w' := by
  unfold txnZ at hp ⊢
  go_enter Try.func20, Try.ntmps20
  go_wp2_with fail
  refine bodyPost_ret (v := .tuple #[.agg #[.slice none 0 0, .slice none 0 0, .slice none 0 0], .bool false]) ?_ rfl ⟨rfl, ?_⟩
  · simp [results, Try.results20, go_sem]
  · repeat (first | exact Step.refl _ _ | refine Step.setCell ?_ (.inr (by simp)) _ | refine Step.alloc ?_ _)
theorem isTxn_yes (a b c : Option Addr) (n1 n2 n3 k1 k2 k3 : Nat) (w : World) :
    Calls Try.prog 20 #[.iface 55 (.agg #[.slice a n1 k1, .slice b n2 k2, .slice c n3 k3])] w fun ee w' => ee = .returned (.tuple #[.agg #[.slice a n1 k1, .slice b n2 k2, .slice c n3 k3], .bool true]) ∧ Step [] [] w w' := by
  have hp := rta22 (.agg #[.slice a n1 k1, .slice b n2 k2, .slice c n3 k3])
  go_enter Try.func20, Try.ntmps20
  go_wp2_with fail
  refine bodyPost_ret (v := .tuple #[.agg #[.slice a n1 k1, .slice b n2 k2, .slice c n3 k3], .bool true]) ?_ rfl ⟨rfl, ?_⟩
  · simp [results, Try.results20, go_sem]
  · repeat (first | exact Step.refl _ _ | refine Step.setCell ?_ (.inr (by simp)) _ | refine Step.alloc ?_ _)
end Go.Proofs.Ytifjnpdnnfdcoaa
