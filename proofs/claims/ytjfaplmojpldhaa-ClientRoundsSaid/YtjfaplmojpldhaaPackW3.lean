/-
  pack.Writer's methods at a writer that stands ahead in a struct of three cells. Condition: a text that is put has at most 2^49 bytes.
-/
import Derived.Test.YtjfaplmojpldhaaPackW2
namespace Go.Proofs.Ytjfaplmojpldhaa
open Go.RowKit
set_option linter.unusedSimpArgs false
set_option linter.unusedVariables false
set_option maxRecDepth 100000

variable {bd : Bool}
/-- Block `p` is req's writer that holds `st`; its third cell is `bd`; its footprint is `S`. -/
def Wq (w : World) (p : Nat) (S : List Nat) (bd : Bool) (st : WS) : Prop :=
  ∃ a cap, Blk w p 145 #[.slice a st.b.length cap, .int .i64 st.f, .bool bd] ∧ Row w 1 a st.b.length cap (st.b.map bv) ∧ p ∉ blks a ∧ S = p :: blks a ∧ st.b.length ≤ 2097152
def WqPost (p : Nat) (S : List Nat) (bd : Bool) (st : WS) (w : World) (e : Ending) (w' : World) : Prop := e = .returned (.tuple #[]) ∧ ∃ S', Wq w' p S' bd st ∧ Step S S' w w'
theorem Wq.step {w w' : World} {p : Nat} {S T T' : List Nat} {st : WS} (h : Wq w p S bd st) (k : Step T T' w w') (hn : ∀ g, g ∈ S → g ∉ T) : Wq w' p S bd st := by
  obtain ⟨a, cap, h1, h2, h3, h4, h5⟩ := h
  subst h4
  exact ⟨a, cap, h1.step k (hn p (by simp)), h2.step k (fun g hg => hn g (by simp [hg])), h3, rfl, h5⟩

set_option maxHeartbeats 400000 in
theorem putq_fault (p : Nat) (S : List Nat) (st : WS) (s : List UInt8) (w : World) (h : Wq w p S bd st) (hf : st.f ≠ 0) :
    Calls Try.prog 48 #[.pointer (some ⟨p, 0, none⟩), Str s] w fun e w' => e = .returned (.tuple #[]) ∧ w = w' := by
  obtain ⟨a, cap, h1, h2, h3, h4, h5⟩ := h
  have c1 := h1.cell 1
  simp at c1
  have hf' : (st.f == 0) = false := by simpa using hf
  clear h1 h2 h4
  go_enter Try.func48, Try.ntmps48
  go_wp2
  go_end0
  exact ⟨rfl, rfl⟩

set_option maxHeartbeats 400000 in
theorem putq_long (p : Nat) (S : List Nat) (st : WS) (s : List UInt8) (w : World) (h : Wq w p S bd st) (hf : st.f = 0) (hl : 2097152 < st.b.length + s.length) (hs : s.length ≤ 1125899906842624) :
    Calls Try.prog 48 #[.pointer (some ⟨p, 0, none⟩), Str s] w (WqPost p S bd ⟨st.b, 2⟩ w) := by
  obtain ⟨b, f⟩ := st
  simp only at hf hl
  subst hf
  obtain ⟨a, cap, h1, h2, h3, h4, h5⟩ := h
  simp only at h1 h2 h5
  have c1 := h1.cell 1
  have c0 := h1.cell 0
  have f1 := h1.frozen 1
  simp at c1 c0
  have H := Lib.hid (And.intro h1 (And.intro h2 h4))
  clear h1 h2 h4
  have hl' : (2097152 : Int) < (b.length : Int) + (s.length : Int) := by omega
  go_enter Try.func48, Try.ntmps48
  go_wp2
  go_end0
  obtain ⟨h1, h2, h4⟩ := H.out
  refine ⟨rfl, S, ⟨a, cap, h1.set 1 (.int .i64 2), h2.step ((Step.refl [p] w).setCell (.inl (by simp)) _) (by intro g hg; simp; rintro rfl; exact h3 hg), h3, h4, h5⟩, ?_⟩
  exact (Step.refl S w).setCell (.inl (by simp [h4])) _

set_option maxHeartbeats 400000 in
theorem putq_ok (p : Nat) (S : List Nat) (st : WS) (s : List UInt8) (w : World) (h : Wq w p S bd st) (hf : st.f = 0) (hl : st.b.length + s.length ≤ 2097152) :
    Calls Try.prog 48 #[.pointer (some ⟨p, 0, none⟩), Str s] w (WqPost p S bd ⟨st.b ++ s, 0⟩ w) := by
  obtain ⟨b, f⟩ := st
  simp only at hf hl
  subst hf
  obtain ⟨a, cap, h1, h2, h3, h4, h5⟩ := h
  simp only at h1 h2 h5
  have c1 := h1.cell 1
  have c0 := h1.cell 0
  simp at c1 c0
  have H := Lib.hid (And.intro h1 (And.intro h2 (And.intro h4 h3)))
  clear h1 h2 h4
  have hl' : (b.length : Int) + (s.length : Int) ≤ 2097152 := by omega
  obtain ⟨i0, hi, hz0, hz1, hz2⟩ := info_parts Try.info_bytes
  have HI := Lib.hid (And.intro hi (And.intro hz0 (And.intro hz1 hz2)))
  clear hi hz0 hz1 hz2
  go_enter Try.func48, Try.ntmps48
  go_wp2_with (at_builtin; refine wpList_append_row rfl (.tmp 8) (.tmp 9) 77 9 rfl 5 i0 _ 1 1 Try.underlying77 HI.out.1 HI.out.2.1 HI.out.2.2.1 HI.out.2.2.2 rfl rfl H.out.2.1 rfl (Src.str w 9 Try.underlying9 s) (by unfold maxLen; omega) (by omega) (by omega) ?_; intro a' cap' w' hr hst; have hk := hst.cell c0 (H.out.2.2.2); have hkf := (H.out.1.step hst H.out.2.2.2).frozen 0)
  go_end0
  obtain ⟨h1, h2, h4, _⟩ := H.out
  have hb := h1.step hst h3
  have hp : p ∉ blks a' := fun hm => by
    rcases hst.fresh p hm with h | h
    · exact h3 h
    · have := h1.lt; omega
  refine ⟨rfl, p :: blks a', ⟨a', cap', by simpa using hb.set 0 (.slice a' (b.length + s.length) cap'), ?_, hp, rfl, by simpa using hl⟩, ?_⟩
  · have := hr.step ((Step.refl [p] w').setCell (p := ⟨p, 0, none⟩) (.inl (by simp)) (.slice a' (b.length + s.length) cap')) (by intro g hg; simp; rintro rfl; exact hp hg)
    simpa using this
  · subst h4
    exact (hst.wide (by simp; intro k hk; exact .inr hk) (by intro k hk; simp at hk ⊢; rcases hk with rfl | hk; exact .inl (.inl rfl); exact .inr (.inl hk))).setCell (.inl (by simp)) _

theorem putq_any (p : Nat) (S : List Nat) (st : WS) (s : List UInt8) (w : World) (h : Wq w p S bd st) (hs : s.length ≤ 1125899906842624) :
    Calls Try.prog 48 #[.pointer (some ⟨p, 0, none⟩), Str s] w (WqPost p S bd (wput st s) w) := by
  by_cases hf : st.f = 0
  · by_cases hl : 2097152 < st.b.length + s.length
    · have e : wput st s = ⟨st.b, 2⟩ := by simp [wput, hf, hl]
      rw [e]; exact putq_long p S st s w h hf hl hs
    · have e : wput st s = ⟨st.b ++ s, 0⟩ := by simp [wput, hf, hl]
      rw [e]; exact putq_ok p S st s w h hf (by omega)
  · have e : wput st s = st := by simp [wput, hf]
    rw [e]
    exact (putq_fault p S st s w h hf).mono fun e w' ⟨he, hw⟩ => by subst hw; exact ⟨he, S, h, Step.refl _ _⟩

set_option maxHeartbeats 400000 in
theorem textq_any (p : Nat) (S : List Nat) (st : WS) (s : List UInt8) (w : World) (h : Wq w p S bd st) (hs : s.length ≤ 562949953421312) :
    Calls Try.prog 61 #[.pointer (some ⟨p, 0, none⟩), Str s] w (WqPost p S bd (wtext st s) w) := by
  have hb := numB_len s.length (by omega)
  have hb2 : (numB s.length).length + s.length ≤ 9223372036854775807 := by omega
  go_enter Try.func61, Try.ntmps61
  go_wp2_with fail
  refine (number_any _ (by omega) _).mono ?_
  rintro e w1 ⟨rfl, hk⟩
  go_wp2_with fail
  refine (putq_any p S st (numB s.length ++ s) w1 (h.step hk (by simp)) (by simp; omega)).mono ?_
  rintro e w2 ⟨rfl, S', h2, hk2⟩
  go_wp2_with fail
  go_end0
  exact ⟨rfl, S', h2, (hk.keep S).trans hk2⟩

set_option maxHeartbeats 400000 in
theorem flagq_any (p : Nat) (S : List Nat) (st : WS) (b : Bool) (w : World) (h : Wq w p S bd st) :
    Calls Try.prog 64 #[.pointer (some ⟨p, 0, none⟩), .bool b] w (WqPost p S bd (wflag st b) w) := by
  have hb := numB_len 1 (by omega)
  have hb0 := numB_len 0 (by omega)
  cases b
  · go_enter Try.func64, Try.ntmps64
    go_wp2_with fail
    refine (number_any _ (by omega) _).mono ?_
    rintro e w1 ⟨rfl, hk⟩
    go_wp2_with fail
    refine (putq_any p S st (numB 0) w1 (h.step hk (by simp)) (by omega)).mono ?_
    rintro e w2 ⟨rfl, S', h2, hk2⟩
    go_wp2_with fail
    go_end0
    exact ⟨rfl, S', h2, (hk.keep S).trans hk2⟩
  · go_enter Try.func64, Try.ntmps64
    go_wp2_with fail
    refine (number_any _ (by omega) _).mono ?_
    rintro e w1 ⟨rfl, hk⟩
    go_wp2_with fail
    refine (putq_any p S st (numB 1) w1 (h.step hk (by simp)) (by omega)).mono ?_
    rintro e w2 ⟨rfl, S', h2, hk2⟩
    go_wp2_with fail
    go_end0
    exact ⟨rfl, S', h2, (hk.keep S).trans hk2⟩

set_option maxHeartbeats 400000 in
theorem numq_any (p : Nat) (S : List Nat) (st : WS) (n : Int) (hn : n < 9223372036854775808) (w : World) (h : Wq w p S bd st) :
    Calls Try.prog 30 #[.pointer (some ⟨p, 0, none⟩), .int .i64 n] w (WqPost p S bd (wnum st n) w) := by
  have hb := numB_len n.toNat (by omega)
  obtain ⟨a, cap, g1, g2, g3, g4, g5⟩ := h
  have c1 := g1.cell 1
  have f1 := g1.frozen 1
  simp at c1
  have H := Lib.hid (And.intro g1 (And.intro g2 (And.intro g4 (And.intro g3 g5))))
  clear g1 g2 g4 g3 g5
  have hw : Hid (Wq w p S bd st) := ⟨a, cap, H.out.1, H.out.2.1, H.out.2.2.2.1, H.out.2.2.1, H.out.2.2.2.2⟩
  by_cases hf : st.f = 0
  · have hfb : (st.f == 0) = true := by simpa using hf
    have hfn := Lib.hid hf
    clear hf
    by_cases hr : n < 0 ∨ 4611686018427387903 < n
    · have e : wnum st n = ⟨st.b, 1⟩ := by simp [wnum, hfn.out, hr]
      have he := Lib.hid e
      clear e
      rcases hr with hr | hr
      all_goals
        go_enter Try.func30, Try.ntmps30
        go_wp2_with fail
        refine bodyPost_ret (results_none rfl _ _ _) rfl ?_
        rw [he.out]
        obtain ⟨h1, h2, h4, h3, h5⟩ := H.out
        refine ⟨rfl, S, ⟨a, cap, h1.set 1 (.int .i64 1), h2.step ((Step.refl [p] w).setCell (.inl (by simp)) _) (by intro g hg; simp; rintro rfl; exact h3 hg), h3, h4, h5⟩, ?_⟩
        exact (Step.refl S w).setCell (.inl (by simp [h4])) _
    · have e : wnum st n = wput st (numB n.toNat) := by simp only [wnum]; rw [if_neg (by omega)]
      rw [e]
      clear e
      have hr1 : 0 ≤ n := by omega
      have hr2 : n ≤ 4611686018427387903 := by omega
      clear hr
      go_enter Try.func30, Try.ntmps30
      go_wp2_with fail
      refine (number_any _ (by omega) _).mono ?_
      rintro e w1 ⟨rfl, hk⟩
      go_wp2_with fail
      refine (putq_any p S st _ w1 (hw.out.step hk (by simp)) (by omega)).mono ?_
      rintro e w2 ⟨rfl, S', h2, hk2⟩
      go_wp2_with fail
      go_end0
      exact ⟨rfl, S', h2, (hk.keep S).trans hk2⟩
  · have hfb : (st.f == 0) = false := by simpa using hf
    have e : wnum st n = wput st (numB n.toNat) := by simp only [wnum]; rw [if_neg (by omega)]
    rw [e]
    clear e
    go_enter Try.func30, Try.ntmps30
    go_wp2_with fail
    refine (number_any _ (by omega) _).mono ?_
    rintro e w1 ⟨rfl, hk⟩
    go_wp2_with fail
    refine (putq_any p S st _ w1 (hw.out.step hk (by simp)) (by omega)).mono ?_
    rintro e w2 ⟨rfl, S', h2, hk2⟩
    go_wp2_with fail
    go_end0
    exact ⟨rfl, S', h2, (hk.keep S).trans hk2⟩

set_option maxHeartbeats 400000 in
theorem bytesq_any (p : Nat) (S : List Nat) (st : WS) (w : World) (h : Wq w p S bd st) :
    Calls Try.prog 31 #[.pointer (some ⟨p, 0, none⟩)] w fun e w' => e = .returned (.tuple #[Str (wbytes st).1, .int .i64 (wbytes st).2]) ∧ Step [] [] w w' := by
  obtain ⟨a, cap, g1, g2, g3, g4, g5⟩ := h
  have c1 := g1.cell 1
  have c0 := g1.cell 0
  simp at c1 c0
  clear g1 g3 g4 g5
  by_cases hf : st.f = 0
  · have hfb : (st.f == 0) = true := by simpa using hf
    have e : Hid (wbytes st = (st.b, 0)) := by show wbytes st = (st.b, 0); simp [wbytes, hf]
    clear hf
    have hcv := run_str_of_row (P := Try.prog) 77 9 5 Try.underlying77 Try.underlying5 Try.underlying9 g2
    clear g2
    go_enter Try.func31, Try.ntmps31
    go_wp2
    go_ret2
    rw [e.out]
    exact ⟨rfl, Step.refl _ _⟩
  · have hfb : (st.f == 0) = false := by simpa using hf
    have e : Hid (wbytes st = ([], st.f)) := by show wbytes st = ([], st.f); simp [wbytes, hf]
    clear hf g2
    go_enter Try.func31, Try.ntmps31
    go_wp2
    go_region
    all_goals
      go_wp2
      go_ret2
      rw [e.out]
      exact ⟨rfl, (Step.refl _ _).drew⟩

end Go.Proofs.Ytjfaplmojpldhaa
