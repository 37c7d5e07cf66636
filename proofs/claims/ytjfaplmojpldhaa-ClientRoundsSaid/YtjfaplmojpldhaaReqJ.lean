/-
  req's acts: acts are read. Condition: at most 2^40 bytes.
-/
import Derived.Test.YtjfaplmojpldhaaReqA
import Derived.Test.YtjfaplmojpldhaaReqPlain2
import Derived.Deep.DeepCutAuto
import Derived.Deep.CutBlock
namespace Go.Proofs.Ytjfaplmojpldhaa
open Go.RowKit
set_option linter.unusedSimpArgs false
set_option linter.unusedVariables false
set_option maxRecDepth 100000

theorem Step.own {w w1 w' : World} {S S' : List Nat} {b : Nat} (h : Step S S' w w1) (k : Step [b] [b] w1 w') (hb : w.heap.size ≤ b) : Step S S' w w' := by
  have h1 : Step S (S' ++ [b]) w w1 := h.wide (fun _ h => h) (fun g hg => by
    rcases List.mem_append.1 hg with hg | hg
    · exact .inr (.inl hg)
    · simp at hg; subst hg; exact .inr (.inr hb))
  exact (h1.trans (k.frame S')).drop fun g hg => List.mem_append_left _ hg
theorem rtext_len3 (st : RS) (m : Int) : (rtext st m).2.s.length ≤ st.s.length := (rtext_len st m).2
/-- While acts are read: the reader, the acts so far (an own slice). -/
def Ak (w0 w : World) (p : Nat) (st : RS) (l : List Da) (a : Option Addr) (cap : Nat) : Prop :=
  Rdr w p st ∧ Row w 7 a l.length cap (dacs l) ∧ Step [p] (p :: blks a) w0 w ∧ (∀ g ∈ blks a, w0.heap.size ≤ g) ∧ p < w0.heap.size ∧ st.s.length ≤ 1099511627776
/-- With the act that is read, in block `eb`. -/
def Bk (w0 w : World) (p : Nat) (st : RS) (l : List Da) (a : Option Addr) (cap : Nat) (eb : Nat) (d : Da) : Prop :=
  Ak w0 w p st l a cap ∧ Blk w eb 108 (dac d).toArray ∧ w0.heap.size ≤ eb ∧ eb ∉ blks a
section
variable {w0 w w' : World} {p : Nat} {st st' : RS} {l : List Da} {a : Option Addr} {cap eb : Nat} {d d' : Da}
theorem Ak.read (h : Ak w0 w p st l a cap) (g : Rdr w' p st') (k : Step [p] [p] w w') (hl : st'.s.length ≤ st.s.length) : Ak w0 w' p st' l a cap := by
  obtain ⟨h1, h2, h3, h4, h5, h6⟩ := h
  exact ⟨g, h2.step k (fun j hj e => by simp at e; subst e; have := h4 _ hj; omega), h3.trans (by simpa using k.frameR (blks a)), h4, h5, by omega⟩
theorem Bk.read (h : Bk w0 w p st l a cap eb d) (g : Rdr w' p st') (k : Step [p] [p] w w') (hl : st'.s.length ≤ st.s.length) : Bk w0 w' p st' l a cap eb d := by
  obtain ⟨h1, h2, h3, h4⟩ := h
  exact ⟨h1.read g k hl, h2.step k (by simp; have := h1.2.2.2.2.1; omega), h3, h4⟩
theorem Bk.new (h : Ak w0 w p st l a cap) (d : Da) : Bk w0 (w.alloc (.cells (dac d).toArray 108)) p st l a cap w.heap.size d := by
  obtain ⟨h1, h2, h3, h4, h5, h6⟩ := h
  exact ⟨⟨h1.alloc _, h2.alloc _, h3.alloc _, h4, h5, h6⟩, Blk.new w _ _, h3.size, fun hm => Nat.lt_irrefl _ (h2.lt _ hm)⟩
theorem Bk.put (h : Bk w0 w p st l a cap eb d) (k : Step [eb] [eb] w w') (hb : Blk w' eb 108 (dac d').toArray) : Bk w0 w' p st l a cap eb d' := by
  obtain ⟨⟨h1, h2, h3, h4, h5, h6⟩, h7, h8, h9⟩ := h
  exact ⟨⟨Rdr.step h1 k (by simp; omega), h2.step k (fun g hg e => by simp at e; subst e; exact h9 hg), h3.own k h8, h4, h5, h6⟩, hb, h8, h9⟩
theorem ak_upto (h : Ak w0 w p st l a cap) (m : Int) : Calls Try.prog 33 #[.pointer (some ⟨p, 0, none⟩), .int .i64 m] w fun e w' => e = .returned (.int .i64 (upto st m).1) ∧ Ak w0 w' p (upto st m).2 l a cap := by
  refine (upto_any p st m w h.1 (by have := h.2.2.2.2.2; omega)).mono ?_
  rintro e w' ⟨he, g, k⟩
  exact ⟨he, h.read g k (upto_len st _)⟩
theorem bk_upto (h : Bk w0 w p st l a cap eb d) (m : Int) : Calls Try.prog 33 #[.pointer (some ⟨p, 0, none⟩), .int .i64 m] w fun e w' => e = .returned (.int .i64 (upto st m).1) ∧ Bk w0 w' p (upto st m).2 l a cap eb d := by
  refine (upto_any p st m w h.1.1 (by have := h.1.2.2.2.2.2; omega)).mono ?_
  rintro e w' ⟨he, g, k⟩
  exact ⟨he, h.read g k (upto_len st _)⟩
theorem bk_text (h : Bk w0 w p st l a cap eb d) (m : Int) : Calls Try.prog 69 #[.pointer (some ⟨p, 0, none⟩), .int .i64 m] w fun e w' => e = .returned (Str (rtext st m).1) ∧ Bk w0 w' p (rtext st m).2 l a cap eb d := by
  refine (rtext_any p st m w h.1.1 (by have := h.1.2.2.2.2.2; omega)).mono ?_
  rintro e w' ⟨he, g, k⟩
  exact ⟨he, h.read g k (rtext_len3 st m)⟩
theorem bk_num (h : Bk w0 w p st l a cap eb d) : Calls Try.prog 66 #[.pointer (some ⟨p, 0, none⟩)] w fun e w' => e = .returned (.int .i64 (rnum st).1) ∧ Bk w0 w' p (rnum st).2 l a cap eb d := by
  refine (rnum_any p st w h.1.1 (by have := h.1.2.2.2.2.2; omega)).mono ?_
  rintro e w' ⟨he, g, k⟩
  exact ⟨he, h.read g k (upto_len st _)⟩
theorem bk_left (h : Bk w0 w p st l a cap eb d) : Calls Try.prog 68 #[.pointer (some ⟨p, 0, none⟩)] w fun e w' => e = .returned (.int .i64 st.s.length) ∧ w = w' := left_any p st w h.1.1
theorem bk_end (h : Bk w0 w p st l a cap eb d) : Calls Try.prog 34 #[.pointer (some ⟨p, 0, none⟩)] w fun e w' => e = .returned (.int .i64 (rend st)) ∧ w = w' := end_any p st w h.1.1
theorem Bk.grow {a9 : Option Addr} {cap9 : Nat} (h : Bk w0 w p st l a cap eb d) (s9 : Step [] [] w w') {w9 : World} (st9 : Step (blks a) (blks a9) w' w9) (hr9 : Row w9 7 a9 (l.length + 1) cap9 (dacs l ++ dacs [d])) : Ak w0 w9 p st (l ++ [d]) a9 cap9 := by
  obtain ⟨⟨h1, h2, h3, h4, h5, h6⟩, h7, h8, h9⟩ := h
  refine ⟨Rdr.step (Rdr.step h1 s9 (by simp)) st9 (fun hm => by have := h4 _ hm; omega), by rw [List.length_append, dacs_app]; exact hr9, ?_, fun g hg => ?_, h5, h6⟩
  · exact (h3.trans (by simpa using s9.frame (p :: blks a))).trans (st9.frame [p])
  · rcases st9.fresh g hg with hm | hm
    · exact h4 g hm
    · exact Nat.le_trans (Nat.le_trans h3.size s9.size) hm
end
def ActsP (p : Nat) (st : RS) (w : World) (e : Ending) (w' : World) : Prop :=
  ∃ a cap, e = .returned (.slice a (rdActs st).1.length cap) ∧ Rd w' 7 a (rdActs st).1.length (dacs (rdActs st).1) ∧ Rdr w' p (rdActs st).2 ∧ Step [p] [p] w w' ∧ (∀ g ∈ blks a, w.heap.size ≤ g) ∧ (rdActs st).2.s.length ≤ 1099511627776
end Go.Proofs.Ytjfaplmojpldhaa
