/-
  pack.Writer: what each method does to a writer. Condition: the text that is put has at most 2^50 bytes.
-/
import Derived.Test.YtjfaplmojpldhaaPackNum
import Derived.Test.YtjfaplmojpldhaaMem
import Derived.Test.YtjfaplmojpldhaaMem5
namespace Go.Proofs.Ytjfaplmojpldhaa
open Go.RowKit
set_option linter.unusedSimpArgs false
set_option linter.unusedVariables false
set_option maxRecDepth 100000

/-- What a writer holds: its bytes, its fault. -/
structure WS where
  b : List UInt8
  f : Int

/-- Block `p` is a writer that holds `st`; its footprint is `S`. -/
def Wr (w : World) (p : Nat) (S : List Nat) (st : WS) : Prop :=
  ∃ a cap, Blk w p 79 #[.slice a st.b.length cap, .int .i64 st.f] ∧ Row w 1 a st.b.length cap (st.b.map bv) ∧ p ∉ blks a ∧ S = p :: blks a ∧ st.b.length ≤ 2097152

theorem Wr.step {w w' : World} {p : Nat} {S T T' : List Nat} {st : WS} (h : Wr w p S st) (k : Step T T' w w') (hn : ∀ g, g ∈ S → g ∉ T) : Wr w' p S st := by
  obtain ⟨a, cap, h1, h2, h3, h4, h5⟩ := h
  subst h4
  exact ⟨a, cap, h1.step k (hn p (by simp)), h2.step k (fun g hg => hn g (by simp [hg])), h3, rfl, h5⟩

def wput (st : WS) (s : List UInt8) : WS := if st.f ≠ 0 then st else if 2097152 < st.b.length + s.length then ⟨st.b, 2⟩ else ⟨st.b ++ s, 0⟩

def WrPost (p : Nat) (S : List Nat) (st : WS) (w : World) (e : Ending) (w' : World) : Prop := e = .returned (.tuple #[]) ∧ ∃ S', Wr w' p S' st ∧ Step S S' w w'


set_option maxHeartbeats 400000 in
theorem put_nil (s : List UInt8) (w : World) : Calls Try.prog 48 #[.pointer none, Str s] w fun e w' => e = .returned (.tuple #[]) ∧ w = w' := by
  go_enter Try.func48, Try.ntmps48
  go_wp2
  go_end0
  exact ⟨rfl, rfl⟩

set_option maxHeartbeats 400000 in
theorem put_fault (p : Nat) (S : List Nat) (st : WS) (s : List UInt8) (w : World) (h : Wr w p S st) (hf : st.f ≠ 0) :
    Calls Try.prog 48 #[.pointer (some ⟨p, 0, none⟩), Str s] w fun e w' => e = .returned (.tuple #[]) ∧ w = w' := by
  obtain ⟨a, cap, h1, h2, h3, h4, h5⟩ := h
  have c1 := h1.cell 1
  simp at c1
  have hf' : (st.f == 0) = false := by simpa using hf
  clear h1 h2 h4
  go_enter Try.func48, Try.ntmps48
  go_wp2
  go_end0
  exact ⟨rfl, rfl⟩

set_option maxHeartbeats 400000 in
theorem put_long (p : Nat) (S : List Nat) (st : WS) (s : List UInt8) (w : World) (h : Wr w p S st) (hf : st.f = 0) (hl : 2097152 < st.b.length + s.length) (hs : s.length ≤ 1125899906842624) :
    Calls Try.prog 48 #[.pointer (some ⟨p, 0, none⟩), Str s] w (WrPost p S ⟨st.b, 2⟩ w) := by
  obtain ⟨b, f⟩ := st
  simp only at hf hl
  subst hf
  obtain ⟨a, cap, h1, h2, h3, h4, h5⟩ := h
  simp only at h1 h2 h5
  have c1 := h1.cell 1
  have c0 := h1.cell 0
  have f1 := h1.frozen 1
  simp at c1 c0
  have H := Lib.hid (And.intro h1 (And.intro h2 h4))
  clear h1 h2 h4
  have hl' : (2097152 : Int) < (b.length : Int) + (s.length : Int) := by omega
  go_enter Try.func48, Try.ntmps48
  go_wp2
  go_end0
  obtain ⟨h1, h2, h4⟩ := H.out
  refine ⟨rfl, S, ⟨a, cap, h1.set 1 (.int .i64 2), h2.step ((Step.refl [p] w).setCell (.inl (by simp)) _) (by intro g hg; simp; rintro rfl; exact h3 hg), h3, h4, h5⟩, ?_⟩
  exact (Step.refl S w).setCell (.inl (by simp [h4])) _

set_option maxHeartbeats 400000 in
theorem put_ok (p : Nat) (S : List Nat) (st : WS) (s : List UInt8) (w : World) (h : Wr w p S st) (hf : st.f = 0) (hl : st.b.length + s.length ≤ 2097152) :
    Calls Try.prog 48 #[.pointer (some ⟨p, 0, none⟩), Str s] w (WrPost p S ⟨st.b ++ s, 0⟩ w) := by
  obtain ⟨b, f⟩ := st
  simp only at hf hl
  subst hf
  obtain ⟨a, cap, h1, h2, h3, h4, h5⟩ := h
  simp only at h1 h2 h5
  have c1 := h1.cell 1
  have c0 := h1.cell 0
  simp at c1 c0
  have H := Lib.hid (And.intro h1 (And.intro h2 (And.intro h4 h3)))
  clear h1 h2 h4
  have hl' : (b.length : Int) + (s.length : Int) ≤ 2097152 := by omega
  obtain ⟨i0, hi, hz0, hz1, hz2⟩ := info_parts Try.info_bytes
  have HI := Lib.hid (And.intro hi (And.intro hz0 (And.intro hz1 hz2)))
  clear hi hz0 hz1 hz2
  go_enter Try.func48, Try.ntmps48
  go_wp2_with (at_builtin; refine wpList_append_row rfl (.tmp 8) (.tmp 9) 77 9 rfl 5 i0 _ 1 1 Try.underlying77 HI.out.1 HI.out.2.1 HI.out.2.2.1 HI.out.2.2.2 rfl rfl H.out.2.1 rfl (Src.str w 9 Try.underlying9 s) (by unfold maxLen; omega) (by omega) (by omega) ?_; intro a' cap' w' hr hst; have hk := hst.cell c0 (H.out.2.2.2); have hkf := (H.out.1.step hst H.out.2.2.2).frozen 0)
  go_end0
  obtain ⟨h1, h2, h4, _⟩ := H.out
  have hb := h1.step hst h3
  have hp : p ∉ blks a' := fun hm => by
    rcases hst.fresh p hm with h | h
    · exact h3 h
    · have := h1.lt; omega
  refine ⟨rfl, p :: blks a', ⟨a', cap', by simpa using hb.set 0 (.slice a' (b.length + s.length) cap'), ?_, hp, rfl, by simpa using hl⟩, ?_⟩
  · have := hr.step ((Step.refl [p] w').setCell (p := ⟨p, 0, none⟩) (.inl (by simp)) (.slice a' (b.length + s.length) cap')) (by intro g hg; simp; rintro rfl; exact hp hg)
    simpa using this
  · subst h4
    exact (hst.wide (by simp; intro k hk; exact .inr hk) (by intro k hk; simp at hk ⊢; rcases hk with rfl | hk; exact .inl (.inl rfl); exact .inr (.inl hk))).setCell (.inl (by simp)) _

/-- put, whatever the writer holds. -/
theorem put_any (p : Nat) (S : List Nat) (st : WS) (s : List UInt8) (w : World) (h : Wr w p S st) (hs : s.length ≤ 1125899906842624) :
    Calls Try.prog 48 #[.pointer (some ⟨p, 0, none⟩), Str s] w (WrPost p S (wput st s) w) := by
  by_cases hf : st.f = 0
  · by_cases hl : 2097152 < st.b.length + s.length
    · have e : wput st s = ⟨st.b, 2⟩ := by simp [wput, hf, hl]
      rw [e]; exact put_long p S st s w h hf hl hs
    · have e : wput st s = ⟨st.b ++ s, 0⟩ := by simp [wput, hf, hl]
      rw [e]; exact put_ok p S st s w h hf (by omega)
  · have e : wput st s = st := by simp [wput, hf]
    rw [e]
    exact (put_fault p S st s w h hf).mono fun e w' ⟨he, hw⟩ => by subst hw; exact ⟨he, S, h, Step.refl _ _⟩
end Go.Proofs.Ytjfaplmojpldhaa
