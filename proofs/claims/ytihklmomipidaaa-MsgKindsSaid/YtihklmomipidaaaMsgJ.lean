/-
  The reference's Same, of two flat forms that are alike. Condition: at most 2^40 entries.
-/
import Derived.Test.YtihklmomipidaaaMsgI
namespace Go.Proofs.Ytihklmomipidaaa
open Go.RowKit
set_option linter.unusedSimpArgs false
set_option linter.unusedVariables false
set_option maxRecDepth 100000

theorem neq_ent (x : Ent) (w : World) : (binOp .neq 60 (.agg #[.int .i64 x.index, .int .i64 x.term, Str x.data]) (.agg #[.int .i64 x.index, .int .i64 x.term, Str x.data])).run Try.prog w = .ok (.bool false) w := by
  go_simp
set_option maxHeartbeats 4000000 in
theorem sameR_any (x : Rw) (a b : Option Addr) (ca cb : Nat) (w : World) (h1 : Rd w 3 a x.es.length (entcs x.es)) (h2 : Rd w 3 b x.es.length (entcs x.es)) (hl : x.es.length ≤ 4398046511104) :
    Calls Try.prog 11 #[rwV x (.slice a x.es.length ca), rwV x (.slice b x.es.length cb)] w fun e w' => e = .returned (.bool true) ∧ Step [] [] w w' := by
  have H0 : Hid (Blk ((w.alloc (.cells (rwc x (.slice a x.es.length ca)).toArray 24)).alloc (.cells (rwc x (.slice b x.es.length cb)).toArray 24)) w.heap.size 24 (rwc x (.slice a x.es.length ca)).toArray ∧ Blk ((w.alloc (.cells (rwc x (.slice a x.es.length ca)).toArray 24)).alloc (.cells (rwc x (.slice b x.es.length cb)).toArray 24)) (w.heap.size + 1) 24 (rwc x (.slice b x.es.length cb)).toArray ∧ Rd ((w.alloc (.cells (rwc x (.slice a x.es.length ca)).toArray 24)).alloc (.cells (rwc x (.slice b x.es.length cb)).toArray 24)) 3 a x.es.length (entcs x.es) ∧ Rd ((w.alloc (.cells (rwc x (.slice a x.es.length ca)).toArray 24)).alloc (.cells (rwc x (.slice b x.es.length cb)).toArray 24)) 3 b x.es.length (entcs x.es) ∧ Step [] [] w ((w.alloc (.cells (rwc x (.slice a x.es.length ca)).toArray 24)).alloc (.cells (rwc x (.slice b x.es.length cb)).toArray 24))) :=
    ⟨(blk2 w _ _ _ _).1, (blk2 w _ _ _ _).2, (h1.alloc _).alloc _, (h2.alloc _).alloc _, ((Step.refl [] w).alloc _).alloc _⟩
  clear h1 h2
  go_enter Try.func11, Try.ntmps11
  go_wp2_with fail
  obtain ⟨b1, hb1⟩ : ∃ b1, b1 = w.heap.size := ⟨_, rfl⟩
  obtain ⟨V, hV⟩ : ∃ V, V = ((w.alloc (.cells (rwc x (.slice a x.es.length ca)).toArray 24)).alloc (.cells (rwc x (.slice b x.es.length cb)).toArray 24)) := ⟨_, rfl⟩
  rw [← hV, ← hb1] at H0
  rw [show ((w.alloc (.cells #[.int .i64 x.kind, .int .i64 x.src, .int .i64 x.term, .int .i64 x.index, .int .i64 x.last, .int .i64 x.commit, .int .i64 x.round, .bool x.yes, .slice a x.es.length ca, .string ⟨x.data.toArray⟩] 24)).alloc (.cells #[.int .i64 x.kind, .int .i64 x.src, .int .i64 x.term, .int .i64 x.index, .int .i64 x.last, .int .i64 x.commit, .int .i64 x.round, .bool x.yes, .slice b x.es.length cb, .string ⟨x.data.toArray⟩] 24)) = V from hV.symm, ← hb1]
  clear hV hb1
  go_loopw [5] (fun v W => ∃ k : Nat, v = .int .i64 k ∧ k ≤ x.es.length ∧ Hid (Step [] [] V W)) (fun v _ => x.es.length - (intOf v).toNat)
  case atStart => exact ⟨0, rfl, by omega, Step.refl _ _⟩
  case round =>
    rename World => W
    obtain ⟨k, rfl, hk, HW⟩ := hrel
    have ra := (H0.out.1.step HW.out (by simp)).rw
    have rl := (H0.out.1.step HW.out (by simp)).lt
    have rb := (H0.out.2.1.step HW.out (by simp)).rw
    have rl2 := (H0.out.2.1.step HW.out (by simp)).lt
    by_cases hlt : k < x.es.length
    · have hlt' : (k : Int) < x.es.length := by omega
      obtain ⟨e, he⟩ : ∃ e, x.es[k]? = some e := ⟨_, List.getElem?_eq_getElem hlt⟩
      have r1 := H0.out.2.2.1.step0 HW.out
      have r2 := H0.out.2.2.2.1.step0 HW.out
      obtain ⟨g, off, rfl⟩ := r1.some_ (by omega)
      obtain ⟨g2, off2, rfl⟩ := r2.some_ (by omega)
      have c1 := rd_ent r1 he
      have c2 := rd_ent r2 he
      have gl : g < W.heap.size := by have := World.block_lt_of_cell? _ _ c1.1; simpa using this
      have gl2 : g2 < W.heap.size := by have := World.block_lt_of_cell? _ _ c2.1; simpa using this
      have hq := neq_ent e
      clear r1 r2 he
      go_wp2_with fail
      go_quiet (fail)
      clear hq c1 c2 ra rb rl rl2 gl gl2
      go_wp2_with fail
      go_roundw
      case rel => exact ⟨k + 1, by go_num, by omega, HW.out.drewN _⟩
      case measure => simp [intOf]; omega
    · obtain rfl : k = x.es.length := by omega
      go_wp2_with fail
      exact bodyPost_ret (results_tmp rfl _ _ _) rfl ⟨rfl, H0.out.2.2.2.2.trans HW.out⟩
end Go.Proofs.Ytihklmomipidaaa
