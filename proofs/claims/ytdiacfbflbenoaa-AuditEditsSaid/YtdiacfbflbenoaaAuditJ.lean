/-
  Two lines compared; lists of lines compared (the reference's Same). Condition: lists of at most 2^40.
-/
import Derived.Test.YtdiacfbflbenoaaAuditLaw
namespace Go.Proofs.Ytdiacfbflbenoaa
open Go.RowKit
set_option linter.unusedSimpArgs false
set_option linter.unusedVariables false
set_option maxRecDepth 100000

theorem neq_ln (x y : Ln) (w : World) : (binOp .neq 32 (lnV x) (lnV y)).run Try.prog w = .ok (.bool (decide (¬ x = y))) w := by
  obtain ⟨a0, a1, a2, a3, a4, a5, a6, a7⟩ := x
  obtain ⟨b0, b1, b2, b3, b4, b5, b6, b7⟩ := y
  go_simp
  repeat' split
  all_goals simp_all

theorem take_eq {α : Type} {l m : List α} {k : Nat} {x y : α} (h : l.take k = m.take k) (hx : l[k]? = some x) (hy : m[k]? = some y) : l.take (k + 1) = m.take (k + 1) ↔ x = y := by
  rw [List.take_add_one, List.take_add_one, h, hx, hy]
  simp
theorem take_ne {α : Type} {l m : List α} {k : Nat} (h : l.take k ≠ m.take k) : l ≠ m := fun e => h (by rw [e])

set_option maxHeartbeats 4000000 in
theorem refSame_any (l m : List Ln) (a b : Option Addr) (ca cb : Nat) (w : World) (hl : Rd w 8 a l.length (lncs l)) (hm : Rd w 8 b m.length (lncs m)) (h1 : l.length ≤ 1099511627776) (h2 : m.length ≤ 1099511627776) :
    Calls Try.prog 19 #[.slice a l.length ca, .slice b m.length cb] w fun e w' => e = .returned (.bool (decide (l = m))) ∧ Step [] [] w w' := by
  have HR := Lib.hid (And.intro hl hm)
  clear hl hm
  go_enter Try.func19, Try.ntmps19
  by_cases hlen : l.length = m.length
  · have hlend : ((l.length : Int) != m.length) = false := by simp; omega
    have HL := Lib.hid hlen
    clear hlen
    go_wp2_with fail
    go_loopw [5] (fun i W => ∃ k : Nat, i = .int .i64 k ∧ k ≤ l.length ∧ Hid (Step [] [] w W ∧ l.take k = m.take k)) (fun i _ => l.length - (intOf i).toNat)
    case atStart => exact ⟨0, rfl, by omega, Step.refl _ _, rfl⟩
    case round =>
      rename World => W
      obtain ⟨k, rfl, hk, HW⟩ := hrel
      by_cases hlt : k < l.length
      · have hlt' : (k : Int) < l.length := by omega
        have hltm : (k : Int) < m.length := by have := HL.out; omega
        have hltm' : k < m.length := by have := HL.out; omega
        obtain ⟨x, hx⟩ : ∃ x, l[k]? = some x := ⟨_, List.getElem?_eq_getElem hlt⟩
        obtain ⟨y, hy⟩ : ∃ y, m[k]? = some y := ⟨_, List.getElem?_eq_getElem hltm'⟩
        have r1 := HR.out.1.step0 HW.out.1
        have r2 := HR.out.2.step0 HW.out.1
        obtain ⟨g, off, rfl⟩ := r1.some_ (by omega)
        obtain ⟨g', off', rfl⟩ := r2.some_ (by omega)
        have cx := rd_line r1 hx
        have cy := rd_line r2 hy
        have gl : g < W.heap.size := by have := World.block_lt_of_cell? _ _ cx.1; simpa using this
        have gl' : g' < W.heap.size := by have := World.block_lt_of_cell? _ _ cy.1; simpa using this
        have HX := Lib.hid (And.intro hx hy)
        clear r1 r2 hx hy
        go_wp2_with fail
        by_cases hxy : x = y
        · have hq : ∀ V : World, (binOp .neq 32 (lnV x) (lnV y)).run Try.prog V = .ok (.bool false) V := fun V => by rw [neq_ln]; simp [hxy]
          have HT := Lib.hid ((take_eq HW.out.2 HX.out.1 HX.out.2).2 hxy)
          clear hxy
          go_quiet (fail)
          go_wp2_with fail
          go_roundw
          case rel => exact ⟨k + 1, by go_num, by omega, HW.out.1.drewN _, HT.out⟩
          case measure => simp [intOf]; omega
        · have hq : ∀ V : World, (binOp .neq 32 (lnV x) (lnV y)).run Try.prog V = .ok (.bool true) V := fun V => by rw [neq_ln]; simp [hxy]
          have HN : Hid (decide (l = m) = false) := decide_eq_false fun e => hxy (by have := HX.out.1; rw [e, HX.out.2] at this; injection this with this; exact this.symm)
          clear hxy
          go_quiet (fail)
          go_wp2_with fail
          exact bodyPost_ret (results_tmp rfl _ _ _) rfl ⟨by rw [HN.out]; rfl, HW.out.1.drewN _⟩
      · obtain rfl : k = l.length := by omega
        have HE : Hid (decide (l = m) = true) := decide_eq_true (by
          have := HW.out.2
          rwa [List.take_length, HL.out, List.take_length] at this)
        go_wp2_with fail
        exact bodyPost_ret (results_tmp rfl _ _ _) rfl ⟨by rw [HE.out]; rfl, HW.out.1⟩
  · have hlend : ((l.length : Int) != m.length) = true := by simp; omega
    have HN : Hid (decide (l = m) = false) := decide_eq_false fun e => hlen (by rw [e])
    clear hlen
    go_wp2_with fail
    exact bodyPost_ret (results_tmp rfl _ _ _) rfl ⟨by rw [HN.out]; rfl, Step.refl _ _⟩
end Go.Proofs.Ytdiacfbflbenoaa
