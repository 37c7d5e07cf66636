/-
  A chain in memory; audit.New, head, Head, Base, Lines. Condition: at most 2^40 lines.
-/
import Derived.Test.YtdiacfbflbenoaaAuditA
namespace Go.Proofs.Ytdiacfbflbenoaa
open Go.RowKit
set_option linter.unusedSimpArgs false
set_option linter.unusedVariables false
set_option maxRecDepth 100000

def lncs (l : List Ln) : List Value := l.flatMap lnc
theorem lncs_len (l : List Ln) : (lncs l).length = l.length * 8 := by
  induction l with
  | nil => rfl
  | cons x l ih => simp [lncs, lnc] at ih ⊢; omega
theorem lncs_append (l m : List Ln) : lncs (l ++ m) = lncs l ++ lncs m := by simp [lncs]
theorem lncs_at (l : List Ln) (i : Nat) (x : Ln) (h : l[i]? = some x) (j : Nat) (hj : j < 8) : (lncs l)[i * 8 + j]? = (lnc x)[j]? := by
  induction l generalizing i with
  | nil => simp at h
  | cons y l ih =>
    cases i with
    | zero =>
      simp at h
      subst h
      simp only [lncs, List.flatMap_cons, Nat.zero_mul, Nat.zero_add]
      rw [List.getElem?_append_left (by simp [lnc]; omega)]
    | succ i =>
      simp at h
      have := ih i h
      simp only [lncs, List.flatMap_cons] at this ⊢
      rw [List.getElem?_append_right (by simp [lnc]; omega), ← this]
      congr 1
      simp [lnc]
      omega
theorem lncs_one (l : List Ln) : ∀ u ∈ lncs l, u.oneCell' = true := by
  intro u hu
  simp only [lncs, List.mem_flatMap] at hu
  obtain ⟨x, _, hx⟩ := hu
  simp [lnc] at hx
  rcases hx with rfl | rfl | rfl | rfl | rfl | rfl | rfl | rfl <;> rfl
theorem rd_line {w : World} {l : List Ln} {g off : Nat} {sp n} (h : Rd w 8 (some ⟨g, off, sp⟩) n (lncs l)) {k : Nat} {x : Ln} (hx : l[k]? = some x) :
    w.cell? ⟨g, off + k * 8, none⟩ = some (.int .i64 x.index) ∧ w.cell? ⟨g, off + k * 8 + 1, none⟩ = some (.int .i64 x.client) ∧ w.cell? ⟨g, off + k * 8 + 2, none⟩ = some (.int .i64 x.seq) ∧ w.cell? ⟨g, off + k * 8 + 3, none⟩ = some (Str x.user) ∧
    w.cell? ⟨g, off + k * 8 + 4, none⟩ = some (.int .i64 x.kind) ∧ w.cell? ⟨g, off + k * 8 + 5, none⟩ = some (.int .i64 x.err) ∧ w.cell? ⟨g, off + k * 8 + 6, none⟩ = some (Str x.digest) ∧ w.cell? ⟨g, off + k * 8 + 7, none⟩ = some (Str x.hash) :=
  ⟨h.cell g off sp rfl (k * 8 + 0) _ ((lncs_at l k _ hx 0 (by omega)).trans rfl), h.cell g off sp rfl (k * 8 + 1) _ ((lncs_at l k _ hx 1 (by omega)).trans rfl),
   h.cell g off sp rfl (k * 8 + 2) _ ((lncs_at l k _ hx 2 (by omega)).trans rfl), h.cell g off sp rfl (k * 8 + 3) _ ((lncs_at l k _ hx 3 (by omega)).trans rfl),
   h.cell g off sp rfl (k * 8 + 4) _ ((lncs_at l k _ hx 4 (by omega)).trans rfl), h.cell g off sp rfl (k * 8 + 5) _ ((lncs_at l k _ hx 5 (by omega)).trans rfl),
   h.cell g off sp rfl (k * 8 + 6) _ ((lncs_at l k _ hx 6 (by omega)).trans rfl), h.cell g off sp rfl (k * 8 + 7) _ ((lncs_at l k _ hx 7 (by omega)).trans rfl)⟩

def Chn (w : World) (p : Nat) (S : List Nat) (c : Ch) : Prop :=
  ∃ a cap, Blk w p 59 #[.int .i64 c.base.count, Str c.base.hash, .slice a c.ls.length cap] ∧ Row w 8 a c.ls.length cap (lncs c.ls) ∧ p ∉ blks a ∧ S = p :: blks a
theorem Chn.step {w w' : World} {p : Nat} {S T T' : List Nat} {c : Ch} (h : Chn w p S c) (k : Step T T' w w') (hn : ∀ g, g ∈ S → g ∉ T) : Chn w' p S c := by
  obtain ⟨a, cap, h1, h2, h3, h4⟩ := h
  subst h4
  exact ⟨a, cap, h1.step k (hn p (by simp)), h2.step k (fun g hg => hn g (by simp [hg])), h3, rfl⟩
theorem Chn.lt {w : World} {p : Nat} {S : List Nat} {c : Ch} (h : Chn w p S c) : ∀ g, g ∈ S → g < w.heap.size := by
  obtain ⟨a, cap, h1, h2, h3, h4⟩ := h
  subst h4
  intro g hg
  rcases List.mem_cons.1 hg with rfl | hg
  · exact h1.lt
  · exact h2.lt g hg

/-- The size of a chain is an int's. -/
structure ChOk (c : Ch) : Prop where
  count : -4611686018427387904 ≤ c.base.count ∧ c.base.count ≤ 4611686018427387904
  len : c.ls.length ≤ 1099511627776

set_option maxHeartbeats 2000000 in
theorem headIn_any (p : Nat) (S : List Nat) (c : Ch) (w : World) (h : Chn w p S c) (hc : ChOk c) :
    Calls Try.prog 25 #[.pointer (some ⟨p, 0, none⟩)] w fun e w' => e = .returned (.agg #[.int .i64 (headL c.base c.ls).count, Str (headL c.base c.ls).hash]) ∧ Step [] [] w w' := by
  obtain ⟨⟨count, hash⟩, ls⟩ := c
  obtain ⟨a, cap, h1, h2, h3, h4⟩ := h
  obtain ⟨⟨hc1, hc2⟩, hc3⟩ := hc
  simp only at h1 h2 hc1 hc2 hc3
  have c0 := h1.cell 0
  have c1 := h1.cell 1
  have c2 := h1.cell 2
  simp only [List.getElem?_toArray, List.getElem?_cons_zero, List.getElem?_cons_succ] at c0 c1 c2
  have hp := h1.lt
  rcases List.eq_nil_or_concat ls with hl | ⟨ys, x, hl⟩
  · subst hl
    simp only [List.length_nil] at c2
    clear h1 h2 h3 h4
    go_enter Try.func25, Try.ntmps25
    go_wp2_with fail
    refine bodyPost_ret (v := .agg #[.int .i64 count, Str hash]) ?_ rfl ⟨rfl, ?_⟩
    · simp [results, Try.results25, go_sem]
    · exact (Step.refl [] w).alloc _
  · rw [List.concat_eq_append] at hl
    subst hl
    rw [headL_snoc]
    have hln : (ys ++ [x]).length = ys.length + 1 := by simp
    rw [hln] at c2 h2 hc3
    obtain ⟨g, off, rfl⟩ := h2.some_of_pos (by omega)
    have hg := h2.lt g (by simp [blks])
    have hx : (ys ++ [x])[ys.length]? = some x := by simp
    have cl := (rd_line h2.rd hx).2.2.2.2.2.2.2
    have HC := Lib.hid (And.intro c0 (And.intro c2 cl))
    have hz : (0 : Int) < (ys.length : Int) + 1 := by omega
    clear h1 h2 h3 h4 hx hln c1
    go_enter Try.func25, Try.ntmps25
    go_wp2_with fail
    have q1 : IntKind.i64.wrap (ys.length : Int) = (ys.length : Int) := IntWalk.i64_in _ (by omega)
    have q2 : IntKind.i64.wrap (count + ((ys.length : Int) + 1)) = count + ((ys.length : Int) + 1) := IntWalk.i64_in _ (by omega)
    have q3 : (ys.length : Int) < (ys.length : Int) + 1 := by omega
    have q4 : (0 : Int) ≤ (ys.length : Int) := by omega
    have q5 : ys.length < ys.length + 1 := by omega
    have hcnt : count + ((ys.length : Int) + 1) = count + (ys.length : Int) + 1 := by omega
    have HCNT := Lib.hid hcnt
    clear hcnt
    refine still_tail 17 (by kernel_rfl) (by kernel_rfl) ?_
    simp only [List.take_succ_cons, List.take_zero, List.drop_succ_cons, List.drop_zero]
    repeat still_step
    refine wpStill_nil ?_
    clear q1 q2 q3 q4 q5
    go_wp2_with fail
    refine bodyPost_ret (v := .agg #[.int .i64 (count + ((ys.length : Int) + 1)), Str x.hash]) ?_ rfl ⟨by rw [HCNT.out], ?_⟩
    · simp [results, Try.results25, go_sem]
    · exact ((Step.refl [] w).alloc _).drew
end Go.Proofs.Ytdiacfbflbenoaa
