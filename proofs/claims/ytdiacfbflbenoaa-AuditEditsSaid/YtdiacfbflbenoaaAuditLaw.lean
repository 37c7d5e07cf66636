/-
  law19's own functions: line, awake. No condition.
-/
import Derived.Test.YtdiacfbflbenoaaAuditI
import Derived.Test.YtdiacfbflbenoaaAuditWake
namespace Go.Proofs.Ytdiacfbflbenoaa
open Go.RowKit
set_option linter.unusedSimpArgs false
set_option linter.unusedVariables false
set_option maxRecDepth 100000

set_option maxHeartbeats 2000000 in
theorem lineL_any (i : Int) (u : List UInt8) (w : World) : Calls Try.prog 23 #[.int .i64 i, Str u] w fun e w' => e = .returned (lnV (lineL i u)) ∧ Step [] [] w w' := by
  have s1 : ∀ o, (w.alloc o).heap.size = w.heap.size + 1 := fun o => by simp
  have h1 := mk32 (w.alloc (.cells (lnc ⟨0, 0, 0, [], 0, 0, [], []⟩).toArray 32))
  have h2 := str32 (w.alloc (.cells (lnc ⟨0, 0, 0, [], 0, 0, [], []⟩).toArray 32))
  rw [s1] at h1 h2
  have b0 := (Blk.new w 32 (lnc ⟨0, 0, 0, [], 0, 0, [], []⟩).toArray).alloc (.cells Z32 5)
  go_enter Try.func23, Try.ntmps23
  go_wp2_with fail
  refine bodyPost_ret (v := lnV (lineL i u)) ?_ rfl ⟨rfl, ((Step.refl [] w).alloc _).alloc _⟩
  simp [results, Try.results23, go_sem, lineL]
  rfl

theorem newL_ok : ChOk newL := ⟨by decide, by decide⟩
theorem lineOk (u : List UInt8) (h : u.length ≤ 1000) : LnOk (lineL 3 u) := ⟨by simp [lineL], by simp [lineL], by simp [lineL], by simp [lineL], by simp [lineL], by show u.length ≤ _; omega, by simp [lineL], by simp [lineL]⟩
theorem hashA_len : hashA.length = 32 := next_len _ _ _
theorem wakeA_ok : LnOk wakeA := ⟨by simp [wakeA, lineL], by simp [wakeA, lineL], by simp [wakeA, lineL], by simp [wakeA, lineL], by simp [wakeA, lineL], by simp [wakeA, lineL], by simp [wakeA, lineL], by show hashA.length ≤ _; rw [hashA_len]; omega⟩
theorem wakeB_ok : LnOk wakeB := ⟨by simp [wakeB, lineL], by simp [wakeB, lineL], by simp [wakeB, lineL], by simp [wakeB, lineL], by simp [wakeB, lineL], by simp [wakeB, lineL], by simp [wakeB, lineL], by show hashA.length ≤ _; rw [hashA_len]; omega⟩
set_option maxHeartbeats 4000000 in
theorem awake19_true (w : World) : Calls Try.prog 7 #[] w fun e w' => e = .returned (.bool true) ∧ Step [] [] w w' := by
  go_enter Try.func7, Try.ntmps7
  go_wp2_with fail
  refine (auditNew_any w).mono ?_
  rintro e w1 ⟨p, rfl, hc, k1⟩
  have H1 := Lib.hid (And.intro hc k1)
  clear hc k1
  go_wp2_with fail
  refine (lineL_any 3 [97] w1).mono ?_
  rintro e w2 ⟨rfl, k2⟩
  have H2 : Hid (Chn w2 p [p] newL ∧ Step [] [p] w w2) := ⟨H1.out.1.step k2 (by simp), H1.out.2.trans (k2.up [p])⟩
  clear k2 H1
  go_wp2_with fail
  refine (add_any p [p] newL (lineL 3 [97]) w2 H2.out.1 newL_ok (lineOk _ (by simp)) (by decide)).mono ?_
  rintro e w3 ⟨S3, rfl, hc3, k3⟩
  rw [wake_can]
  have H3 : Hid (Chn w3 p S3 ⟨⟨0, List.replicate 32 0⟩, [wakeA]⟩ ∧ Step [] S3 w w3) := ⟨by rw [← wake_add]; exact hc3, H2.out.2.trans k3⟩
  have HO : Hid (ChOk ⟨⟨0, List.replicate 32 0⟩, [wakeA]⟩) := ⟨by decide, by decide⟩
  clear hc3 k3 H2
  go_wp2_with fail
  refine (headOut_any p S3 _ w3 H3.out.1 HO.out).mono ?_
  rintro e w4 ⟨rfl, k4⟩
  have H4 : Hid (Chn w4 p S3 ⟨⟨0, List.replicate 32 0⟩, [wakeA]⟩ ∧ Step [] S3 w w4) := ⟨H3.out.1.step k4 (by simp), H3.out.2.trans (k4.up S3)⟩
  rw [wake_head]
  clear k4 H3
  go_wp2_with fail
  refine (lines_any p S3 _ w4 H4.out.1 HO.out).mono ?_
  rintro e w5 ⟨a, cap, rfl, g5, k5⟩
  simp only [List.length_cons, List.length_nil, Nat.zero_add] at g5 ⊢
  obtain ⟨g, off, rfl⟩ := g5.some_of_pos (by omega)
  have hx : [wakeA][0]? = some wakeA := rfl
  have cl := (rd_line g5.rd hx)
  have hg := g5.lt g (by simp [blks])
  have H5 : Hid (Row w5 8 (some ⟨g, off, none⟩) 1 cap (lncs [wakeA]) ∧ Step [] [g] w w5) := ⟨g5, (H4.out.2.trans (k5.wide (T := S3) (S'' := [g]) (by simp) (by intro k hk; exact .inr (.inl hk))))⟩
  clear k5 g5 H4 hx
  have c7 : w5.cell? ⟨g, off + 7, none⟩ = some (Str hashA) := by have := cl.2.2.2.2.2.2.2; rw [Nat.zero_mul, Nat.add_zero] at this; exact this
  have m1 := mk32 w5
  have m2 := str32 w5
  clear cl
  go_wp2_with fail
  have HV : Hid (Rd (w5.alloc (.cells Z32 5)) 8 (some ⟨g, off, none⟩) 1 (lncs [wakeA])) := (H5.out.1.alloc _).rd
  refine (verify_any ⟨0, List.replicate 32 0⟩ [wakeA] (some ⟨g, off, none⟩) cap ⟨1, hashA⟩ (w5.alloc (.cells Z32 5)) HV.out (by decide) ?_ (by decide)).mono ?_
  · intro x hx; simp only [List.mem_singleton] at hx; subst hx; exact wakeA_ok
  rintro e w6 ⟨rfl, k6⟩
  rw [wake_yes]
  have H6 : Hid (Row w6 8 (some ⟨g, off, none⟩) 1 cap (lncs [wakeA]) ∧ Step [] [g] w w6) := ⟨(H5.out.1.alloc _).step k6 (by simp), (H5.out.2.alloc _).trans (k6.up [g])⟩
  have c3 : w6.cell? ⟨g, off + 3, none⟩ = some (Str [97]) := (H6.out.1.cell rfl 3 (by omega)).1
  have f3 : w6.frozen? ⟨g, off + 3, none⟩ = false := (H6.out.1.cell rfl 3 (by omega)).2.1
  have g6 := H6.out.1.lt g (by simp [blks])
  clear k6 HV H5 c7 m1 m2 hg
  go_upto_region 9 with fail
  obtain ⟨w7, hw7⟩ : ∃ w7, w7 = w6.setCell ⟨g, off + 3, none⟩ (Str [98]) := ⟨_, rfl⟩
  have H7 : Hid (Rd w7 8 (some ⟨g, off, none⟩) 1 (lncs [wakeB]) ∧ Step [] [] w w7) := by
    rw [hw7]
    exact ⟨(H6.out.1.set rfl 3 (by omega) (Str [98])).rd, (H6.out.2.setCell (.inl (by simp)) _).drop (by simp)⟩
  rw [show w6.setCell ⟨g, off + 3, none⟩ (.string ⟨#[98]⟩) = w7 from hw7.symm]
  have m1 := mk32 w7
  have m2 := str32 w7
  have g7 : g < w7.heap.size := by rw [hw7]; simpa using g6
  clear hw7 H6 c3 f3 g6
  go_wp2_with fail
  refine (verify_any ⟨0, List.replicate 32 0⟩ [wakeB] (some ⟨g, off, none⟩) cap ⟨1, hashA⟩ (w7.alloc (.cells Z32 5)) (H7.out.1.alloc _) (by decide) ?_ (by decide)).mono ?_
  · intro x hx; simp only [List.mem_singleton] at hx; subst hx; exact wakeB_ok
  rintro e w8 ⟨rfl, k8⟩
  rw [wake_no]
  have H8 := Lib.hid ((H7.out.2.alloc (.cells Z32 5)).trans k8)
  clear k8 m1 m2
  go_wp2_with fail
  exact bodyPost_ret (results_tmp rfl _ _ _) rfl ⟨rfl, H8.out⟩
end Go.Proofs.Ytdiacfbflbenoaa
