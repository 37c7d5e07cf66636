/-
 Chapter 8: an event of ShotPlays that comes in; great. Condition: none.
-/
import Derived.Test.YtjdgdmlhipbaaaaGreatDoorZGJ
namespace Go.Proofs.YtjdgdmlhipbaaaaGreatDoor
open Go.RowKit Go.Lib Go.ChangeShapes Go.WideShapes Go.ChangeAt
set_option linter.unusedSimpArgs false
set_option linter.unusedVariables false
set_option maxRecDepth 100000

structure Ov where
 k : Int
 x : Sn
 n : List UInt8
 s : List UInt8
 m : Int
 ks : List Int
 ka : Option Addr
 kc : Nat
def opv (o : Ov) : List Value := [.int .i64 o.k, .int .i64 o.x.i, .int .i64 o.x.t, Str o.x.dt, Str o.n, Str o.s, .int .i64 o.m, .slice o.ka o.ks.length o.kc]
theorem opv_len (o : Ov) : (opv o).length = 8 := rfl
structure OvB (w : World) (o : Ov) : Prop where
 x : SnB o.x
 n : o.n.length ≤ 140737488351232
 s : o.s.length ≤ 140737488351232
 m : -9223372036854775808 ≤ o.m ∧ o.m < 9223372036854775808
 ks : o.ks.length ≤ maxLen
 rd : Rd w 1 o.ka o.ks.length (o.ks.map (Value.int .i64))
theorem op_ov {w : World} {cs : List Value} (h : Op Tryz.prog w 36 cs) : ∃ o : Ov, cs = opv o ∧ OvB w o := by
 obtain ⟨hl, _⟩ := h.struct Tryz.underlying36
 rw [show Tryz.prog.cellsOf 36 = 8 by kernel_rfl] at hl
 obtain ⟨c0, c1, c2, c3, c4, c5, c6, c7, rfl⟩ : ∃ a0 a1 a2 a3 a4 a5 a6 a7, cs = [a0, a1, a2, a3, a4, a5, a6, a7] := by
  match cs, hl with
  | [a0, a1, a2, a3, a4, a5, a6, a7], _ => exact ⟨a0, a1, a2, a3, a4, a5, a6, a7, rfl⟩
 have g0 := h.fieldD Tryz.underlying36 0 0 3 rfl
 have g1 := h.fieldD Tryz.underlying36 1 1 33 rfl
 have g2 := h.fieldD Tryz.underlying36 2 4 9 rfl
 have g3 := h.fieldD Tryz.underlying36 3 5 9 rfl
 have g4 := h.fieldD Tryz.underlying36 4 6 3 rfl
 have g5 := h.fieldD Tryz.underlying36 5 7 34 rfl
 rw [show Tryz.prog.cellsOf 3 = 1 by kernel_rfl] at g0 g4
 rw [show Tryz.prog.cellsOf 33 = 3 by kernel_rfl] at g1
 rw [show Tryz.prog.cellsOf 9 = 1 by kernel_rfl] at g2 g3
 rw [show Tryz.prog.cellsOf 34 = 1 by kernel_rfl] at g5
 obtain ⟨x0, e0, w0⟩ := g0.int Tryz.underlying3
 obtain ⟨x1, e1, b1⟩ := op_sn g1
 obtain ⟨x2, e2, b2⟩ := g2.str Tryz.underlying9
 obtain ⟨x3, e3, b3⟩ := g3.str Tryz.underlying9
 obtain ⟨x4, e4, w4⟩ := g4.int Tryz.underlying3
 obtain ⟨l, a, cap, e5, h1, h2, h3⟩ := op_ints g5
 simp only [List.drop_succ_cons, List.drop_zero, List.take_succ_cons, List.take_zero, List.cons.injEq, and_true, snc] at e0 e1 e2 e3 e4 e5
 obtain ⟨e10, e11, e12⟩ := e1
 subst e0 e10 e11 e12 e2 e3 e4 e5
 exact ⟨⟨x0, x1, x2, x3, x4, l, a, cap⟩, rfl, ⟨b1, b2, b3, wf_d w4, Nat.le_trans h1 h2, h3⟩⟩
theorem op_ovs {w : World} {cs : List Value} (h : Op Tryz.prog w 22 cs) : ∃ (l : List Ov) (a : Option Addr) (cap : Nat), cs = [.slice a l.length cap] ∧ Rd w 8 a l.length (l.flatMap opv) ∧ (∀ o ∈ l, OvB w o) ∧ l.length ≤ 4611686018427387904 := by
 obtain ⟨a, n, cap, e, h1, h2, h3, h4⟩ := h.slice Tryz.underlying22 (sz := 8) (by kernel_rfl)
 obtain ⟨l, hl, hr, hq⟩ := rd_of (w := w) opv 8 (by omega) opv_len (a := a) (n := n) (fun o => OvB w o) (fun i hi => by
  obtain ⟨cs', hlen, ⟨ad, hx, hc⟩, hop⟩ := h4 i hi
  obtain ⟨o, e2, hB⟩ := op_ov hop
  subst e2
  exact ⟨o, ⟨ad, hx, hc⟩, hB⟩)
 subst hl
 exact ⟨l, a, cap, e, hr, hq, by rw [show Tryz.prog.bytesOf 36 = 104 by kernel_rfl] at h3; omega⟩
def GrB (o : Ov) : Prop := o.x.dt.length ≤ 140000 ∧ o.s.length ≤ 3000 ∧ o.n.length ≤ 1000
def GrP8 (w : World) (l : List Ov) (e : Ending) (w' : World) : Prop := ∃ g, e = .returned (.bool g) ∧ (g = false → l.length ≤ 40 ∧ ∀ o ∈ l, GrB o) ∧ w = w'
def GrR8 (w : World) (l : List Ov) (k : Nat) (W : World) : Prop := w = W ∧ ∀ o ∈ l.take k, GrB o
theorem GrR8.next {w W : World} {l : List Ov} {k : Nat} {o : Ov} (h : GrR8 w l k W) (hx : l[k]? = some o) (h1 : GrB o) : GrR8 w l (k + 1) W := by
 have hk := (List.getElem?_eq_some_iff.1 hx).1
 have hg := (List.getElem?_eq_some_iff.1 hx).2
 refine ⟨h.1, fun x hm => ?_⟩
 rw [List.take_succ_eq_append_getElem hk, hg] at hm
 rcases List.mem_append.1 hm with hm | hm
 ·exact h.2 x hm
 ·simp at hm; subst hm; exact h1
set_option maxHeartbeats 4000000 in
theorem great08_any (l : List Ov) (a : Option Addr) (cap : Nat) (w : World) (hr : Rd w 8 a l.length (l.flatMap opv)) (hl : l.length ≤ 4611686018427387904) :
  Calls Tryz.prog 5 #[.slice a l.length cap] w (GrP8 w l) := by
 obtain ⟨N, hN⟩ : ∃ N, N = l.length := ⟨_, rfl⟩
 have HRD := Lib.hid hr
 rw [← hN] at hl ⊢
 have HN := Lib.hid hN
 clear hN hr
 go_enter Tryz.func5, Tryz.ntmps5
 go_wp2_with fail
 go_loopw [6] (fun i W => ∃ k : Nat, i = .int .i64 k ∧ k ≤ N ∧ k ≤ 40 ∧ Hid (GrR8 w l k W)) (fun i _ => N - (intOf i).toNat)
 case atStart => exact ⟨0, rfl, by omega, by omega, Lib.hid ⟨rfl, by simp⟩⟩
 case round =>
  rename World => W
  obtain ⟨k, rfl, hkN, hk2, HW⟩ := hrel
  have hWw := HW.out.1
  by_cases hlt : k < N
  ·have hlt' : (k : Int) < N := by omega
   by_cases h40 : (40 : Int) ≤ k
   ·have h2d : decide ((40 : Int) ≤ k) = true := decide_eq_true h40
    clear hWw
    go_wp2_with fail
    refine bodyPost_ret (results_tmp rfl _ _ _) rfl ?_
    exact ⟨true, rfl, (by intro h; cases h), HW.out.1⟩
   ·have h2d : decide ((40 : Int) ≤ k) = false := decide_eq_false h40
    obtain ⟨o, ho⟩ : ∃ o, l[k]? = some o := ⟨_, List.getElem?_eq_getElem (by rw [← HN.out]; exact hlt)⟩
    obtain ⟨g, off, hs1⟩ := HRD.out.some_ (by rw [← HN.out]; omega)
    have hr2 := HRD.out
    rw [hs1, hWw] at hr2
    have z3 := rd_fl opv 8 opv_len hr2 ho 3 (by omega) _ rfl
    have z4 := rd_fl opv 8 opv_len hr2 ho 4 (by omega) _ rfl
    have z5 := rd_fl opv 8 opv_len hr2 ho 5 (by omega) _ rfl
    have gl : g < W.heap.size := by have := World.block_lt_of_cell? _ _ z3; simpa using this
    have HOO := Lib.hid ho
    rw [hs1]
    clear hr2 hs1 ho hWw
    by_cases h5 : (140000 : Int) < o.x.dt.length
    ·have h5d : decide ((140000 : Int) < o.x.dt.length) = true := decide_eq_true h5
     clear h5
     go_wp2_with fail
     refine bodyPost_ret (results_tmp rfl _ _ _) rfl ?_
     exact ⟨true, rfl, (by intro h; cases h), HW.out.1⟩
    have h5d : decide ((140000 : Int) < o.x.dt.length) = false := decide_eq_false h5
    by_cases h6 : (3000 : Int) < o.s.length
    ·have h6d : decide ((3000 : Int) < o.s.length) = true := decide_eq_true h6
     clear h6 h5
     go_wp2_with fail
     refine bodyPost_ret (results_tmp rfl _ _ _) rfl ?_
     exact ⟨true, rfl, (by intro h; cases h), HW.out.1⟩
    have h6d : decide ((3000 : Int) < o.s.length) = false := decide_eq_false h6
    by_cases h1 : (1000 : Int) < o.n.length
    ·have h1d : decide ((1000 : Int) < o.n.length) = true := decide_eq_true h1
     clear h1 h5 h6
     go_wp2_with fail
     refine bodyPost_ret (results_tmp rfl _ _ _) rfl ?_
     exact ⟨true, rfl, (by intro h; cases h), HW.out.1⟩
    have h1d : decide ((1000 : Int) < o.n.length) = false := decide_eq_false h1
    have HNX := Lib.hid (HW.out.next HOO.out ⟨by omega, by omega, by omega⟩)
    clear h1 h5 h6
    go_wp2_with fail
    go_roundw
    case rel => exact ⟨k + 1, by go_num, by omega, by omega, HNX⟩
    case measure => simp [intOf]; omega
  ·have hnl : ¬ (k : Int) < N := by omega
   have hke : Hid (k = l.length) := Lib.hid (by rw [← HN.out]; omega)
   clear hWw
   go_wp2_with fail
   refine bodyPost_ret (results_tmp rfl _ _ _) rfl ?_
   exact ⟨false, rfl, fun _ => ⟨by rw [← hke.out]; exact hk2, fun o ho => HW.out.2 o (by rw [hke.out, List.take_length]; exact ho)⟩, HW.out.1⟩

end Go.Proofs.YtjdgdmlhipbaaaaGreatDoor
