/-
  pack.Writer: Num, Text, Flag, Bytes. Condition: a text that is put has at most 2^49 bytes.
-/
import Derived.Test.YtjfaplmojpldhaaPackW
namespace Go.Proofs.Ytjfaplmojpldhaa
open Go.RowKit
set_option linter.unusedSimpArgs false
set_option linter.unusedVariables false
set_option maxRecDepth 100000

def wnum (st : WS) (n : Int) : WS := if st.f = 0 ∧ (n < 0 ∨ 4611686018427387903 < n) then ⟨st.b, 1⟩ else wput st (numB n.toNat)
def wtext (st : WS) (s : List UInt8) : WS := wput st (numB s.length ++ s)
def wflag (st : WS) (b : Bool) : WS := wput st (numB (if b then 1 else 0))

set_option maxHeartbeats 400000 in
theorem text_any (p : Nat) (S : List Nat) (st : WS) (s : List UInt8) (w : World) (h : Wr w p S st) (hs : s.length ≤ 562949953421312) :
    Calls Try.prog 61 #[.pointer (some ⟨p, 0, none⟩), Str s] w (WrPost p S (wtext st s) w) := by
  have hb := numB_len s.length (by omega)
  have hb2 : (numB s.length).length + s.length ≤ 9223372036854775807 := by omega
  go_enter Try.func61, Try.ntmps61
  go_wp2_with fail
  refine (number_any _ (by omega) _).mono ?_
  rintro e w1 ⟨rfl, hk⟩
  go_wp2_with fail
  refine (put_any p S st (numB s.length ++ s) w1 (h.step hk (by simp)) (by simp; omega)).mono ?_
  rintro e w2 ⟨rfl, S', h2, hk2⟩
  go_wp2_with fail
  go_end0
  exact ⟨rfl, S', h2, (hk.keep S).trans hk2⟩

set_option maxHeartbeats 400000 in
theorem text_nil (s : List UInt8) (w : World) (hs : s.length ≤ 562949953421312) :
    Calls Try.prog 61 #[.pointer none, Str s] w fun e w' => e = .returned (.tuple #[]) ∧ Step [] [] w w' := by
  have hb := numB_len s.length (by omega)
  have hb2 : (numB s.length).length + s.length ≤ 9223372036854775807 := by omega
  go_enter Try.func61, Try.ntmps61
  go_wp2_with fail
  refine (number_any _ (by omega) _).mono ?_
  rintro e w1 ⟨rfl, hk⟩
  go_wp2_with fail
  refine (put_nil (numB s.length ++ s) w1).mono ?_
  rintro e w2 ⟨rfl, rfl⟩
  go_wp2_with fail
  go_end0
  exact ⟨rfl, hk⟩

set_option maxHeartbeats 400000 in
theorem flag_any (p : Nat) (S : List Nat) (st : WS) (b : Bool) (w : World) (h : Wr w p S st) :
    Calls Try.prog 64 #[.pointer (some ⟨p, 0, none⟩), .bool b] w (WrPost p S (wflag st b) w) := by
  have hb := numB_len 1 (by omega)
  have hb0 := numB_len 0 (by omega)
  cases b
  · go_enter Try.func64, Try.ntmps64
    go_wp2_with fail
    refine (number_any _ (by omega) _).mono ?_
    rintro e w1 ⟨rfl, hk⟩
    go_wp2_with fail
    refine (put_any p S st (numB 0) w1 (h.step hk (by simp)) (by omega)).mono ?_
    rintro e w2 ⟨rfl, S', h2, hk2⟩
    go_wp2_with fail
    go_end0
    exact ⟨rfl, S', h2, (hk.keep S).trans hk2⟩
  · go_enter Try.func64, Try.ntmps64
    go_wp2_with fail
    refine (number_any _ (by omega) _).mono ?_
    rintro e w1 ⟨rfl, hk⟩
    go_wp2_with fail
    refine (put_any p S st (numB 1) w1 (h.step hk (by simp)) (by omega)).mono ?_
    rintro e w2 ⟨rfl, S', h2, hk2⟩
    go_wp2_with fail
    go_end0
    exact ⟨rfl, S', h2, (hk.keep S).trans hk2⟩

set_option maxHeartbeats 400000 in
theorem flag_nil (b : Bool) (w : World) :
    Calls Try.prog 64 #[.pointer none, .bool b] w fun e w' => e = .returned (.tuple #[]) ∧ Step [] [] w w' := by
  cases b
  all_goals
    go_enter Try.func64, Try.ntmps64
    go_wp2_with fail
    refine (number_any _ (by omega) _).mono ?_
    rintro e w1 ⟨rfl, hk⟩
    go_wp2_with fail
    refine (put_nil _ w1).mono ?_
    rintro e w2 ⟨rfl, rfl⟩
    go_wp2_with fail
    go_end0
    exact ⟨rfl, hk⟩

set_option maxHeartbeats 400000 in
theorem num_nil (n : Int) (w : World) (hn : n < 9223372036854775808) :
    Calls Try.prog 30 #[.pointer none, .int .i64 n] w fun e w' => e = .returned (.tuple #[]) ∧ Step [] [] w w' := by
  go_enter Try.func30, Try.ntmps30
  go_wp2_with fail
  refine (number_any _ (by omega) _).mono ?_
  rintro e w1 ⟨rfl, hk⟩
  go_wp2_with fail
  refine (put_nil _ w1).mono ?_
  rintro e w2 ⟨rfl, rfl⟩
  go_wp2_with fail
  go_end0
  exact ⟨rfl, hk⟩

set_option maxHeartbeats 400000 in
theorem num_any (p : Nat) (S : List Nat) (st : WS) (n : Int) (hn : n < 9223372036854775808) (w : World) (h : Wr w p S st) :
    Calls Try.prog 30 #[.pointer (some ⟨p, 0, none⟩), .int .i64 n] w (WrPost p S (wnum st n) w) := by
  have hb := numB_len n.toNat (by omega)
  obtain ⟨a, cap, g1, g2, g3, g4, g5⟩ := h
  have c1 := g1.cell 1
  have f1 := g1.frozen 1
  simp at c1
  have H := Lib.hid (And.intro g1 (And.intro g2 (And.intro g4 (And.intro g3 g5))))
  clear g1 g2 g4 g3 g5
  have hw : Hid (Wr w p S st) := ⟨a, cap, H.out.1, H.out.2.1, H.out.2.2.2.1, H.out.2.2.1, H.out.2.2.2.2⟩
  by_cases hf : st.f = 0
  · have hfb : (st.f == 0) = true := by simpa using hf
    have hfn := Lib.hid hf
    clear hf
    by_cases hr : n < 0 ∨ 4611686018427387903 < n
    · have e : wnum st n = ⟨st.b, 1⟩ := by simp [wnum, hfn.out, hr]
      have he := Lib.hid e
      clear e
      rcases hr with hr | hr
      all_goals
        go_enter Try.func30, Try.ntmps30
        go_wp2_with fail
        refine bodyPost_ret (results_none rfl _ _ _) rfl ?_
        rw [he.out]
        obtain ⟨h1, h2, h4, h3, h5⟩ := H.out
        refine ⟨rfl, S, ⟨a, cap, h1.set 1 (.int .i64 1), h2.step ((Step.refl [p] w).setCell (.inl (by simp)) _) (by intro g hg; simp; rintro rfl; exact h3 hg), h3, h4, h5⟩, ?_⟩
        exact (Step.refl S w).setCell (.inl (by simp [h4])) _
    · have e : wnum st n = wput st (numB n.toNat) := by simp only [wnum]; rw [if_neg (by omega)]
      rw [e]
      clear e
      have hr1 : 0 ≤ n := by omega
      have hr2 : n ≤ 4611686018427387903 := by omega
      clear hr
      go_enter Try.func30, Try.ntmps30
      go_wp2_with fail
      refine (number_any _ (by omega) _).mono ?_
      rintro e w1 ⟨rfl, hk⟩
      go_wp2_with fail
      refine (put_any p S st _ w1 (hw.out.step hk (by simp)) (by omega)).mono ?_
      rintro e w2 ⟨rfl, S', h2, hk2⟩
      go_wp2_with fail
      go_end0
      exact ⟨rfl, S', h2, (hk.keep S).trans hk2⟩
  · have hfb : (st.f == 0) = false := by simpa using hf
    have e : wnum st n = wput st (numB n.toNat) := by simp only [wnum]; rw [if_neg (by omega)]
    rw [e]
    clear e
    go_enter Try.func30, Try.ntmps30
    go_wp2_with fail
    refine (number_any _ (by omega) _).mono ?_
    rintro e w1 ⟨rfl, hk⟩
    go_wp2_with fail
    refine (put_any p S st _ w1 (hw.out.step hk (by simp)) (by omega)).mono ?_
    rintro e w2 ⟨rfl, S', h2, hk2⟩
    go_wp2_with fail
    go_end0
    exact ⟨rfl, S', h2, (hk.keep S).trans hk2⟩

set_option maxHeartbeats 400000 in
theorem bytes_nil (w : World) : Calls Try.prog 31 #[.pointer none] w fun e w' => e = .returned (.tuple #[Str [], .int .i64 1]) ∧ w = w' := by
  go_enter Try.func31, Try.ntmps31
  go_wp2
  go_ret2
  exact ⟨rfl, rfl⟩

/-- What a writer tells. -/
def wbytes (st : WS) : List UInt8 × Int := if st.f = 0 then (st.b, 0) else ([], st.f)

set_option maxHeartbeats 400000 in
theorem bytes_any (p : Nat) (S : List Nat) (st : WS) (w : World) (h : Wr w p S st) :
    Calls Try.prog 31 #[.pointer (some ⟨p, 0, none⟩)] w fun e w' => e = .returned (.tuple #[Str (wbytes st).1, .int .i64 (wbytes st).2]) ∧ Step [] [] w w' := by
  obtain ⟨a, cap, g1, g2, g3, g4, g5⟩ := h
  have c1 := g1.cell 1
  have c0 := g1.cell 0
  simp at c1 c0
  clear g1 g3 g4 g5
  by_cases hf : st.f = 0
  · have hfb : (st.f == 0) = true := by simpa using hf
    have e : Hid (wbytes st = (st.b, 0)) := by show wbytes st = (st.b, 0); simp [wbytes, hf]
    clear hf
    have hcv := run_str_of_row (P := Try.prog) 77 9 5 Try.underlying77 Try.underlying5 Try.underlying9 g2
    clear g2
    go_enter Try.func31, Try.ntmps31
    go_wp2
    go_ret2
    rw [e.out]
    exact ⟨rfl, Step.refl _ _⟩
  · have hfb : (st.f == 0) = false := by simpa using hf
    have e : Hid (wbytes st = ([], st.f)) := by show wbytes st = ([], st.f); simp [wbytes, hf]
    clear hf g2
    go_enter Try.func31, Try.ntmps31
    go_wp2
    go_region
    all_goals
      go_wp2
      go_ret2
      rw [e.out]
      exact ⟨rfl, (Step.refl _ _).drew⟩
end Go.Proofs.Ytjfaplmojpldhaa
