/-
 The reference's Read and readActs as plain Lean; what stands while they run. No condition.
-/
import Derived.Test.YtjfaplmojpldhaaZGC
import Derived.Test.YtjfaplmojpldhaaZReqK
import Derived.Test.YtjfaplmojpldhaaZPackRefR
namespace Go.Proofs.Ytjfaplmojpldhaa
open Go.RowKit
set_option linter.unusedSimpArgs false
set_option linter.unusedVariables false
set_option maxRecDepth 100000

abbrev mostN : Int := 4611686018427387903
/-! ### each turn eats a byte, or the reader is bad -/
theorem upto_bad {st : RS} (m : Int) (h : st.bad = true) : upto st m = (0, rfail) := by simp [upto, h]
theorem rtext_bad {st : RS} (m : Int) (h : st.bad = true) : (rtext st m).2 = rfail := by simp [rtext, rtake, upto_bad m h, rfail]
theorem upto_less (st : RS) (m : Int) : (upto st m).2 = rfail ∨ (upto st m).2.s.length < st.s.length := by
 obtain ⟨s, b⟩ := st
 unfold upto
 split
 ·exact .inl rfl
 ·split
  ·exact .inl rfl
  ·split
   ·exact .inl rfl
   ·rename_i h1 _ hd rest h2 h3
    simp only at h2
    subst h2
    unfold uptoFin
    split
    ·exact .inl rfl
    ·right
     simp
     omega
theorem rtext_fail (m : Int) : (rtext rfail m).2 = rfail := rtext_bad m rfl
theorem upto_fail (m : Int) : (upto rfail m).2 = rfail := by rw [upto_bad m rfl]
theorem rtext_less (st : RS) (m : Int) : (rtext st m).2 = rfail ∨ (rtext st m).2.s.length < st.s.length := by
 rcases upto_less st m with h | h
 ·left
  simp [rtext, rtake, h, rfail]
 ·unfold rtext rtake
  split
  ·exact .inl rfl
  ·right
   simp only [List.length_drop]
   omega
/-- While acts are read: the reader, the acts so far (an own slice). -/
def Af (w0 w : World) (p : Nat) (st : RS) (l : List Da) (a : Option Addr) (cap : Nat) : Prop :=
 Ref w p st ∧ Row w 7 a l.length cap (dacs l) ∧ Step [p] (p :: blks a) w0 w ∧ (∀ g ∈ blks a, w0.heap.size ≤ g) ∧ p < w0.heap.size ∧ st.s.length ≤ 1099511627776
/-- With the act that is read, in block `eb`. -/
def Bf (w0 w : World) (p : Nat) (st : RS) (l : List Da) (a : Option Addr) (cap : Nat) (eb : Nat) (d : Da) : Prop :=
 Af w0 w p st l a cap ∧ Blk w eb 108 (dac d).toArray ∧ w0.heap.size ≤ eb ∧ eb ∉ blks a
section
variable {w0 w w' : World} {p : Nat} {st st' : RS} {l : List Da} {a : Option Addr} {cap eb : Nat} {d d' : Da}
theorem Af.read (h : Af w0 w p st l a cap) (g : Ref w' p st') (k : Step [p] [p] w w') (hl : st'.s.length ≤ st.s.length) : Af w0 w' p st' l a cap := by
 obtain ⟨h1, h2, h3, h4, h5, h6⟩ := h
 exact ⟨g, h2.step k (fun j hj e => by simp at e; subst e; have := h4 _ hj; omega), h3.trans (by simpa using k.frameR (blks a)), h4, h5, by omega⟩
theorem Bf.read (h : Bf w0 w p st l a cap eb d) (g : Ref w' p st') (k : Step [p] [p] w w') (hl : st'.s.length ≤ st.s.length) : Bf w0 w' p st' l a cap eb d := by
 obtain ⟨h1, h2, h3, h4⟩ := h
 exact ⟨h1.read g k hl, h2.step k (by simp; have := h1.2.2.2.2.1; omega), h3, h4⟩
theorem Bf.new (h : Af w0 w p st l a cap) (d : Da) : Bf w0 (w.alloc (.cells (dac d).toArray 108)) p st l a cap w.heap.size d := by
 obtain ⟨h1, h2, h3, h4, h5, h6⟩ := h
 exact ⟨⟨h1.alloc _, h2.alloc _, h3.alloc _, h4, h5, h6⟩, Blk.new w _ _, h3.size, fun hm => Nat.lt_irrefl _ (h2.lt _ hm)⟩
theorem Bf.put (h : Bf w0 w p st l a cap eb d) (k : Step [eb] [eb] w w') (hb : Blk w' eb 108 (dac d').toArray) : Bf w0 w' p st l a cap eb d' := by
 obtain ⟨⟨h1, h2, h3, h4, h5, h6⟩, h7, h8, h9⟩ := h
 exact ⟨⟨Ref.step h1 k (by simp; omega), h2.step k (fun g hg e => by simp at e; subst e; exact h9 hg), h3.own k h8, h4, h5, h6⟩, hb, h8, h9⟩
end
/-- A reader in block `p`, and the blocks of `K`, all of them new since `w0`. -/
structure Df0 (w0 w : World) (K : List (Nat × TypeId × Array Value)) (p : Nat) (st : RS) : Prop where
 rdr : Ref w p st
 blk : ∀ q ∈ K, Blk w q.1 q.2.1 q.2.2 ∧ q.1 ≠ p ∧ w0.heap.size ≤ q.1
 out : Step [] [] w0 w
 fp : w0.heap.size ≤ p
 len : st.s.length ≤ 1099511627776
/-- With the flat form `x` in block `br`. -/
structure Df (w0 w : World) (K : List (Nat × TypeId × Array Value)) (p br : Nat) (st : RS) (x : Cm) (a1 a2 a3 : Option Addr) (c1 c2 c3 : Nat) : Prop where
 base : Df0 w0 w (CB br x a1 a2 a3 c1 c2 c3 :: K) p st
 ne : ∀ q ∈ K, q.1 ≠ br
 i : Row w 4 a1 x.ifs.length c1 (cpcs x.ifs)
 t : Rd w 7 a2 x.thens.length (dacs x.thens)
 e : Rd w 7 a3 x.elses.length (dacs x.elses)
 di : ∀ g ∈ blks a1, w0.heap.size ≤ g ∧ g ≠ p ∧ g ≠ br ∧ ∀ q ∈ K, g ≠ q.1
 dt : ∀ g ∈ blks a2, g ≠ p ∧ g ≠ br
 de : ∀ g ∈ blks a3, g ≠ p ∧ g ≠ br
section
variable {w0 w w' : World} {K : List (Nat × TypeId × Array Value)} {p br pp : Nat} {st st' : RS} {x x' : Cm} {a1 a2 a3 : Option Addr} {c1 c2 c3 : Nat}
theorem Df0.read (h : Df0 w0 w K p st) (g : Ref w' p st') (k : Step [p] [p] w w') (hl : st'.s.length ≤ st.s.length) : Df0 w0 w' K p st' :=
 ⟨g, fun q hq => ⟨(h.blk q hq).1.step k (by simpa using (h.blk q hq).2.1), (h.blk q hq).2⟩, h.out.own k h.fp, h.fp, by have := h.len; omega⟩
theorem Df0.quiet (h : Df0 w0 w K p st) (k : Step [] [] w w') : Df0 w0 w' K p st :=
 ⟨Ref.step h.rdr k (by simp), fun q hq => ⟨(h.blk q hq).1.step k (by simp), (h.blk q hq).2⟩, h.out.trans k, h.fp, h.len⟩
theorem Df0.push (h : Df0 w0 w K p st) (T : TypeId) (cs : Array Value) : Df0 w0 (w.alloc (.cells cs T)) ((w.heap.size, T, cs) :: K) p st := by
 refine ⟨Ref.step h.rdr ((Step.refl [] w).alloc _) (by simp), fun q hq => ?_, h.out.alloc _, h.fp, h.len⟩
 rcases List.mem_cons.1 hq with rfl | hq
 ·exact ⟨Blk.new w T cs, by have := Blk.lt h.rdr; simp only; omega, h.out.size⟩
 ·exact ⟨(h.blk q hq).1.alloc _, (h.blk q hq).2⟩
theorem Df0.fresh (h : Df0 w0 w K p st) : ∀ q ∈ K, q.1 ≠ w.heap.size := fun q hq e => by have := (h.blk q hq).1.lt; omega
theorem Df.quiet (h : Df w0 w K p br st x a1 a2 a3 c1 c2 c3) (k : Step [] [] w w') : Df w0 w' K p br st x a1 a2 a3 c1 c2 c3 :=
 ⟨h.base.quiet k, h.ne, h.i.step k (by simp), h.t.step0 k, h.e.step0 k, h.di, h.dt, h.de⟩
theorem Df.read (h : Df w0 w K p br st x a1 a2 a3 c1 c2 c3) (g : Ref w' p st') (k : Step [p] [p] w w') (hl : st'.s.length ≤ st.s.length) : Df w0 w' K p br st' x a1 a2 a3 c1 c2 c3 :=
 ⟨h.base.read g k hl, h.ne, h.i.step k (fun g hg => by simpa using (h.di g hg).2.1), h.t.step k (fun g hg => by simpa using (h.dt g hg).1), h.e.step k (fun g hg => by simpa using (h.de g hg).1), h.di, h.dt, h.de⟩
theorem Df.cmd (h : Df w0 w K p br st x a1 a2 a3 c1 c2 c3) : Blk w br 44 (cmc x (.slice a1 x.ifs.length c1) (.slice a2 x.thens.length c2) (.slice a3 x.elses.length c3)).toArray := (h.base.blk _ (List.mem_cons_self ..)).1
theorem Df.blk (h : Df w0 w K p br st x a1 a2 a3 c1 c2 c3) {b : Nat} {T : TypeId} {cs : Array Value} (hq : (b, T, cs) ∈ K) : Blk w b T cs := (h.base.blk _ (List.mem_cons_of_mem _ hq)).1
theorem Df.out (h : Df w0 w K p br st x a1 a2 a3 c1 c2 c3) : Step [] [] w0 w := h.base.out
theorem Df.new {x : Cm} (h : Df0 w0 w K p st) (h1 : x.ifs = []) (h2 : x.thens = []) (h3 : x.elses = []) (hb : ∀ q ∈ K, q.1 ≠ br) (hc : Df0 w0 w (CB br x none none none 0 0 0 :: K) p st) : Df w0 w K p br st x none none none 0 0 0 :=
 ⟨hc, hb, by rw [h1]; exact Row.none w 4, by rw [h2]; exact (Row.none w 7).rd, by rw [h3]; exact (Row.none w 7).rd, by simp [blks], by simp [blks], by simp [blks]⟩
/-- The flat form is written. -/
theorem Df.putL {b2 b3 : Option Addr} {e2 e3 : Nat} (h : Df w0 w K p br st x a1 a2 a3 c1 c2 c3) (ss : Step [br] [br] w w') (hb : Blk w' br 44 (cmc x' (.slice a1 x'.ifs.length c1) (.slice b2 x'.thens.length e2) (.slice b3 x'.elses.length e3)).toArray)
  (hi : x'.ifs = x.ifs) (ht : Rd w' 7 b2 x'.thens.length (dacs x'.thens)) (he : Rd w' 7 b3 x'.elses.length (dacs x'.elses)) (dt' : ∀ g ∈ blks b2, g ≠ p ∧ g ≠ br) (de' : ∀ g ∈ blks b3, g ≠ p ∧ g ≠ br) : Df w0 w' K p br st x' a1 b2 b3 c1 e2 e3 := by
 have fb := (h.base.blk _ (List.mem_cons_self ..)).2
 refine ⟨⟨Ref.step h.base.rdr ss (by simpa using fb.1.symm), fun q hq => ?_, h.base.out.own ss fb.2, h.base.fp, h.base.len⟩, h.ne, ?_, ht, he, h.di, dt', de'⟩
 ·rcases List.mem_cons.1 hq with rfl | hq
  ·exact ⟨hb, fb⟩
  ·have := h.base.blk q (List.mem_cons_of_mem _ hq)
   exact ⟨this.1.step ss (by simpa using h.ne q hq), this.2⟩
 ·rw [hi]
  exact h.i.step ss (fun g hg => by simpa using (h.di g hg).2.2.1)
theorem Df.put0 (h : Df w0 w K p br st x none none none 0 0 0) (ss : Step [br] [br] w w') (hb : Blk w' br 44 (cmc x' (.slice none x'.ifs.length 0) (.slice none x'.thens.length 0) (.slice none x'.elses.length 0)).toArray)
  (hi : x'.ifs = x.ifs) (ht : x'.thens = []) (he : x'.elses = []) : Df w0 w' K p br st x' none none none 0 0 0 :=
 h.putL ss hb hi (by rw [ht]; exact (Row.none w' 7).rd) (by rw [he]; exact (Row.none w' 7).rd) (by simp [blks]) (by simp [blks])
/-! ### calls -/
end
end Go.Proofs.Ytjfaplmojpldhaa
