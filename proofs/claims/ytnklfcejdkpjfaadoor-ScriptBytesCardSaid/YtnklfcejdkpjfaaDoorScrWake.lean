/-
  An event as it comes in; the law's example (awake). Condition: Itoa's table as Go lays it.
-/
import Derived.Test.YtnklfcejdkpjfaaDoorScrC
import Derived.Test.YtnklfcejdkpjfaaDoorScrTabs
namespace Go.Proofs.YtnklfcejdkpjfaaDoor
open Go.RowKit Go.ChangeShapes Go.WideShapes Go.ChangeAt
set_option linter.unusedSimpArgs false
set_option linter.unusedVariables false
set_option maxRecDepth 100000

theorem Op.fieldS {P : Program} {w : World} {t : TypeId} {cs : List Value} {fs : Array Field} (ht : P.underlying t = some (.struct fs)) (h : Op P w t cs) (i off : Nat) (T : TypeId) (hf : (fs[i]?).map (fun f => (f.offset, f.type)) = some (off, T)) : Op P w T ((cs.drop off).take (P.cellsOf T)) := by
  cases hfi : fs[i]? with
  | none => simp [hfi] at hf
  | some f =>
    simp only [hfi, Option.map_some, Option.some.injEq, Prod.mk.injEq] at hf
    have := (h.struct ht).2 i f hfi
    rwa [hf.1, hf.2] at this
theorem okWide_aggS {P : Program} {w : World} {r : Reach} {base : Nat} {t : TypeId} {fs : Array Field} {v : Value} (ht : P.underlying t = some (.struct fs)) (h : Value.okWide P w r base t v) : ∃ cs, v = .agg cs ∧ cs.size = P.cellsOf t := by
  unfold Value.okWide at h
  rw [ht] at h
  cases v <;> simp_all
theorem op_ev {w : World} {cs : List Value} (h : Op Tryd.prog w 23 cs) : ∃ x : Ev, cs = evc x := by
  obtain ⟨hl, _⟩ := h.struct Tryd.underlying23
  rw [show Tryd.prog.cellsOf 23 = 5 by kernel_rfl] at hl
  obtain ⟨c0, c1, c2, c3, c4, rfl⟩ : ∃ a0 a1 a2 a3 a4, cs = [a0, a1, a2, a3, a4] := by
    match cs, hl with
    | [a0, a1, a2, a3, a4], _ => exact ⟨a0, a1, a2, a3, a4, rfl⟩
  have g0 := h.fieldS Tryd.underlying23 0 0 3 rfl
  rw [show Tryd.prog.cellsOf 3 = 1 by kernel_rfl] at g0
  simp only [List.drop_succ_cons, List.drop_zero, List.take_succ_cons, List.take_zero] at g0
  obtain ⟨x0, e0, w0⟩ := g0.int Tryd.underlying3
  have g1 := h.fieldS Tryd.underlying23 1 1 3 rfl
  rw [show Tryd.prog.cellsOf 3 = 1 by kernel_rfl] at g1
  simp only [List.drop_succ_cons, List.drop_zero, List.take_succ_cons, List.take_zero] at g1
  obtain ⟨x1, e1, w1⟩ := g1.int Tryd.underlying3
  have g2 := h.fieldS Tryd.underlying23 2 2 3 rfl
  rw [show Tryd.prog.cellsOf 3 = 1 by kernel_rfl] at g2
  simp only [List.drop_succ_cons, List.drop_zero, List.take_succ_cons, List.take_zero] at g2
  obtain ⟨x2, e2, w2⟩ := g2.int Tryd.underlying3
  have g3 := h.fieldS Tryd.underlying23 3 3 3 rfl
  rw [show Tryd.prog.cellsOf 3 = 1 by kernel_rfl] at g3
  simp only [List.drop_succ_cons, List.drop_zero, List.take_succ_cons, List.take_zero] at g3
  obtain ⟨x3, e3, w3⟩ := g3.int Tryd.underlying3
  have g4 := h.fieldS Tryd.underlying23 4 4 3 rfl
  rw [show Tryd.prog.cellsOf 3 = 1 by kernel_rfl] at g4
  simp only [List.drop_succ_cons, List.drop_zero, List.take_succ_cons, List.take_zero] at g4
  obtain ⟨x4, e4, w4⟩ := g4.int Tryd.underlying3
  simp only [List.cons.injEq, and_true] at e0 e1 e2 e3 e4
  subst e0 e1 e2 e3 e4
  exact ⟨⟨x0, x1, x2, x3, x4⟩, rfl⟩
theorem ev_in {w : World} {b : Nat} {v : Value} (hv : Value.okWide Tryd.prog w .any b 23 v) (h : Op Tryd.prog w 23 v.cells.toList) : ∃ x : Ev, v = evV x := by
  obtain ⟨cs, rfl, _⟩ := okWide_aggS Tryd.underlying23 hv
  obtain ⟨x, hx⟩ := op_ev h
  refine ⟨x, ?_⟩
  obtain ⟨l⟩ := cs
  have : l = evc x := hx
  subst this
  rfl
theorem strs_in {w : World} {b : Nat} {v : Value} (hv : Value.okWide Tryd.prog w .any b 9 v) (h : Op Tryd.prog w 9 v.cells.toList) : ∃ l : List UInt8, v = Str l := by
  obtain ⟨s, rfl⟩ := okWide_string Tryd.underlying9 hv
  exact ⟨s.data.toList, rfl⟩
theorem ev_eql (x : Ev) (w : World) : (binOp .eql 23 (evV x) (evV x)).run Tryd.prog w = .ok (.bool true) w := by
  go_simp
theorem ev_neq (x : Ev) (w : World) : (binOp .neq 23 (evV x) (evV x)).run Tryd.prog w = .ok (.bool false) w := by
  go_simp
def wakeA : Ev := ⟨7, 1, 0, 2, 0⟩
def wakeB : Ev := ⟨2, 3, 0, 0, 0⟩
theorem wakeA_line : lineC wakeA = ([99, 117, 116, 32, 49, 32, 48, 32, 50], true) := by decide +kernel
theorem wakeB_line : lineE wakeB = [116, 105, 99, 107, 32, 51] := by decide +kernel
theorem wakeB_parse : parseC [116, 105, 99, 107, 32, 51] = (wakeB, true) := by rw [← wakeB_line, parseC, parse_line (by decide +kernel)]
set_option maxHeartbeats 2000000 in
theorem awake25_true (w : World) (hT : STabs w) : Calls Tryd.prog 7 #[] w fun e w' => e = .returned (.bool true) ∧ Step [] [] w w' := by
  have HTT := Lib.hid hT
  clear hT
  go_enter Tryd.func7, Tryd.ntmps7
  go_wp2_with fail
  refine (line_any wakeA w HTT.out).mono ?_
  rintro e w1 ⟨rfl, k1⟩
  have H1 := Lib.hid k1
  clear k1
  rw [wakeA_line]
  go_wp2_with fail
  refine (parse_any [116, 105, 99, 107, 32, 51] w1 (HTT.out.step H1.out) (by decide)).mono ?_
  rintro e w2 ⟨rfl, k2⟩
  have H2 := Lib.hid (H1.out.trans k2)
  clear k2 H1
  rw [wakeB_parse]
  simp only [wakeB]
  go_wp2_with fail
  exact bodyPost_ret (results_tmp rfl _ _ _) rfl ⟨rfl, H2.out.alloc _⟩
end Go.Proofs.YtnklfcejdkpjfaaDoor
