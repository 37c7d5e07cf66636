/-
  req's acts: acts are read. Condition: at most 2^40 bytes.
-/
import Derived.Test.YtjfaplmojpldhaaZReqPlain2
import Derived.Test.YtjfaplmojpldhaaZReqA
import Derived.Deep.DeepCutAuto
import Derived.Deep.CutBlock
namespace Go.Proofs.Ytjfaplmojpldhaa
open Go.RowKit
set_option linter.unusedSimpArgs false
set_option linter.unusedVariables false
set_option maxRecDepth 100000

theorem Step.own {w w1 w' : World} {S S' : List Nat} {b : Nat} (h : Step S S' w w1) (k : Step [b] [b] w1 w') (hb : w.heap.size ≤ b) : Step S S' w w' := by
  have h1 : Step S (S' ++ [b]) w w1 := h.wide (fun _ h => h) (fun g hg => by
    rcases List.mem_append.1 hg with hg | hg
    · exact .inr (.inl hg)
    · simp at hg; subst hg; exact .inr (.inr hb))
  exact (h1.trans (k.frame S')).drop fun g hg => List.mem_append_left _ hg
theorem rtext_len3 (st : RS) (m : Int) : (rtext st m).2.s.length ≤ st.s.length := (rtext_len st m).2
/-- While acts are read: the reader, the acts so far (an own slice). -/
def Ak (w0 w : World) (p : Nat) (st : RS) (l : List Da) (a : Option Addr) (cap : Nat) : Prop :=
  Rdr w p st ∧ Row w 7 a l.length cap (dacs l) ∧ Step [p] (p :: blks a) w0 w ∧ (∀ g ∈ blks a, w0.heap.size ≤ g) ∧ p < w0.heap.size ∧ st.s.length ≤ 1099511627776
/-- With the act that is read, in block `eb`. -/
def Bk (w0 w : World) (p : Nat) (st : RS) (l : List Da) (a : Option Addr) (cap : Nat) (eb : Nat) (d : Da) : Prop :=
  Ak w0 w p st l a cap ∧ Blk w eb 108 (dac d).toArray ∧ w0.heap.size ≤ eb ∧ eb ∉ blks a
section
variable {w0 w w' : World} {p : Nat} {st st' : RS} {l : List Da} {a : Option Addr} {cap eb : Nat} {d d' : Da}
theorem Ak.read (h : Ak w0 w p st l a cap) (g : Rdr w' p st') (k : Step [p] [p] w w') (hl : st'.s.length ≤ st.s.length) : Ak w0 w' p st' l a cap := by
  obtain ⟨h1, h2, h3, h4, h5, h6⟩ := h
  exact ⟨g, h2.step k (fun j hj e => by simp at e; subst e; have := h4 _ hj; omega), h3.trans (by simpa using k.frameR (blks a)), h4, h5, by omega⟩
theorem Bk.read (h : Bk w0 w p st l a cap eb d) (g : Rdr w' p st') (k : Step [p] [p] w w') (hl : st'.s.length ≤ st.s.length) : Bk w0 w' p st' l a cap eb d := by
  obtain ⟨h1, h2, h3, h4⟩ := h
  exact ⟨h1.read g k hl, h2.step k (by simp; have := h1.2.2.2.2.1; omega), h3, h4⟩
theorem Bk.new (h : Ak w0 w p st l a cap) (d : Da) : Bk w0 (w.alloc (.cells (dac d).toArray 108)) p st l a cap w.heap.size d := by
  obtain ⟨h1, h2, h3, h4, h5, h6⟩ := h
  exact ⟨⟨h1.alloc _, h2.alloc _, h3.alloc _, h4, h5, h6⟩, Blk.new w _ _, h3.size, fun hm => Nat.lt_irrefl _ (h2.lt _ hm)⟩
theorem Bk.put (h : Bk w0 w p st l a cap eb d) (k : Step [eb] [eb] w w') (hb : Blk w' eb 108 (dac d').toArray) : Bk w0 w' p st l a cap eb d' := by
  obtain ⟨⟨h1, h2, h3, h4, h5, h6⟩, h7, h8, h9⟩ := h
  exact ⟨⟨Rdr.step h1 k (by simp; omega), h2.step k (fun g hg e => by simp at e; subst e; exact h9 hg), h3.own k h8, h4, h5, h6⟩, hb, h8, h9⟩
end
end Go.Proofs.Ytjfaplmojpldhaa
