/-
  What Decode of a request calls, with what stands besides: the reader, its pointer, the flat form that is filled. Condition: texts of at most 2^40 bytes.
-/
import Derived.Test.YtjfaplmojpldhaaZGA
import Derived.Test.YtjfaplmojpldhaaZReqC
import Derived.Test.YtjfaplmojpldhaaZReqJ
namespace Go.Proofs.Ytjfaplmojpldhaa
open Go.RowKit
set_option linter.unusedSimpArgs false
set_option linter.unusedVariables false
set_option maxRecDepth 100000

/-- A reader in block `p`, and the blocks of `K`, all of them new since `w0`. -/
structure Dk0 (w0 w : World) (K : List (Nat × TypeId × Array Value)) (p : Nat) (st : RS) : Prop where
  rdr : Rdr w p st
  blk : ∀ q ∈ K, Blk w q.1 q.2.1 q.2.2 ∧ q.1 ≠ p ∧ w0.heap.size ≤ q.1
  out : Step [] [] w0 w
  fp : w0.heap.size ≤ p
  len : st.s.length ≤ 1099511627776
abbrev CB (br : Nat) (x : Cm) (a1 a2 a3 : Option Addr) (c1 c2 c3 : Nat) : Nat × TypeId × Array Value := (br, 44, (cmc x (.slice a1 x.ifs.length c1) (.slice a2 x.thens.length c2) (.slice a3 x.elses.length c3)).toArray)
/-- With the flat form `x` in block `br`. -/
structure Dk (w0 w : World) (K : List (Nat × TypeId × Array Value)) (p br : Nat) (st : RS) (x : Cm) (a1 a2 a3 : Option Addr) (c1 c2 c3 : Nat) : Prop where
  base : Dk0 w0 w (CB br x a1 a2 a3 c1 c2 c3 :: K) p st
  ne : ∀ q ∈ K, q.1 ≠ br
  i : Row w 4 a1 x.ifs.length c1 (cpcs x.ifs)
  t : Rd w 7 a2 x.thens.length (dacs x.thens)
  e : Rd w 7 a3 x.elses.length (dacs x.elses)
  di : ∀ g ∈ blks a1, w0.heap.size ≤ g ∧ g ≠ p ∧ g ≠ br ∧ ∀ q ∈ K, g ≠ q.1
  dt : ∀ g ∈ blks a2, g ≠ p ∧ g ≠ br
  de : ∀ g ∈ blks a3, g ≠ p ∧ g ≠ br
section
variable {w0 w w' : World} {K : List (Nat × TypeId × Array Value)} {p br pp : Nat} {st st' : RS} {x x' : Cm} {a1 a2 a3 : Option Addr} {c1 c2 c3 : Nat}
theorem Dk0.read (h : Dk0 w0 w K p st) (g : Rdr w' p st') (k : Step [p] [p] w w') (hl : st'.s.length ≤ st.s.length) : Dk0 w0 w' K p st' :=
  ⟨g, fun q hq => ⟨(h.blk q hq).1.step k (by simpa using (h.blk q hq).2.1), (h.blk q hq).2⟩, h.out.own k h.fp, h.fp, by have := h.len; omega⟩
theorem Dk0.quiet (h : Dk0 w0 w K p st) (k : Step [] [] w w') : Dk0 w0 w' K p st :=
  ⟨Rdr.step h.rdr k (by simp), fun q hq => ⟨(h.blk q hq).1.step k (by simp), (h.blk q hq).2⟩, h.out.trans k, h.fp, h.len⟩
theorem Dk0.push (h : Dk0 w0 w K p st) (T : TypeId) (cs : Array Value) : Dk0 w0 (w.alloc (.cells cs T)) ((w.heap.size, T, cs) :: K) p st := by
  refine ⟨Rdr.step h.rdr ((Step.refl [] w).alloc _) (by simp), fun q hq => ?_, h.out.alloc _, h.fp, h.len⟩
  rcases List.mem_cons.1 hq with rfl | hq
  · exact ⟨Blk.new w T cs, by have := Blk.lt h.rdr; simp only; omega, h.out.size⟩
  · exact ⟨(h.blk q hq).1.alloc _, (h.blk q hq).2⟩
theorem Dk0.fresh (h : Dk0 w0 w K p st) : ∀ q ∈ K, q.1 ≠ w.heap.size := fun q hq e => by have := (h.blk q hq).1.lt; omega
theorem Dk.quiet (h : Dk w0 w K p br st x a1 a2 a3 c1 c2 c3) (k : Step [] [] w w') : Dk w0 w' K p br st x a1 a2 a3 c1 c2 c3 :=
  ⟨h.base.quiet k, h.ne, h.i.step k (by simp), h.t.step0 k, h.e.step0 k, h.di, h.dt, h.de⟩
theorem Dk.read (h : Dk w0 w K p br st x a1 a2 a3 c1 c2 c3) (g : Rdr w' p st') (k : Step [p] [p] w w') (hl : st'.s.length ≤ st.s.length) : Dk w0 w' K p br st' x a1 a2 a3 c1 c2 c3 :=
  ⟨h.base.read g k hl, h.ne, h.i.step k (fun g hg => by simpa using (h.di g hg).2.1), h.t.step k (fun g hg => by simpa using (h.dt g hg).1), h.e.step k (fun g hg => by simpa using (h.de g hg).1), h.di, h.dt, h.de⟩
theorem Dk.cmd (h : Dk w0 w K p br st x a1 a2 a3 c1 c2 c3) : Blk w br 44 (cmc x (.slice a1 x.ifs.length c1) (.slice a2 x.thens.length c2) (.slice a3 x.elses.length c3)).toArray := (h.base.blk _ (List.mem_cons_self ..)).1
theorem Dk.blk (h : Dk w0 w K p br st x a1 a2 a3 c1 c2 c3) {b : Nat} {T : TypeId} {cs : Array Value} (hq : (b, T, cs) ∈ K) : Blk w b T cs := (h.base.blk _ (List.mem_cons_of_mem _ hq)).1
theorem Dk.out (h : Dk w0 w K p br st x a1 a2 a3 c1 c2 c3) : Step [] [] w0 w := h.base.out
theorem Dk.new {x : Cm} (h : Dk0 w0 w K p st) (h1 : x.ifs = []) (h2 : x.thens = []) (h3 : x.elses = []) (hb : ∀ q ∈ K, q.1 ≠ br) (hc : Dk0 w0 w (CB br x none none none 0 0 0 :: K) p st) : Dk w0 w K p br st x none none none 0 0 0 :=
  ⟨hc, hb, by rw [h1]; exact Row.none w 4, by rw [h2]; exact (Row.none w 7).rd, by rw [h3]; exact (Row.none w 7).rd, by simp [blks], by simp [blks], by simp [blks]⟩
/-- The flat form is written. -/
theorem Dk.putL {b2 b3 : Option Addr} {e2 e3 : Nat} (h : Dk w0 w K p br st x a1 a2 a3 c1 c2 c3) (ss : Step [br] [br] w w') (hb : Blk w' br 44 (cmc x' (.slice a1 x'.ifs.length c1) (.slice b2 x'.thens.length e2) (.slice b3 x'.elses.length e3)).toArray)
    (hi : x'.ifs = x.ifs) (ht : Rd w' 7 b2 x'.thens.length (dacs x'.thens)) (he : Rd w' 7 b3 x'.elses.length (dacs x'.elses)) (dt' : ∀ g ∈ blks b2, g ≠ p ∧ g ≠ br) (de' : ∀ g ∈ blks b3, g ≠ p ∧ g ≠ br) : Dk w0 w' K p br st x' a1 b2 b3 c1 e2 e3 := by
  have fb := (h.base.blk _ (List.mem_cons_self ..)).2
  refine ⟨⟨Rdr.step h.base.rdr ss (by simpa using fb.1.symm), fun q hq => ?_, h.base.out.own ss fb.2, h.base.fp, h.base.len⟩, h.ne, ?_, ht, he, h.di, dt', de'⟩
  · rcases List.mem_cons.1 hq with rfl | hq
    · exact ⟨hb, fb⟩
    · have := h.base.blk q (List.mem_cons_of_mem _ hq)
      exact ⟨this.1.step ss (by simpa using h.ne q hq), this.2⟩
  · rw [hi]
    exact h.i.step ss (fun g hg => by simpa using (h.di g hg).2.2.1)
theorem Dk.put0 (h : Dk w0 w K p br st x none none none 0 0 0) (ss : Step [br] [br] w w') (hb : Blk w' br 44 (cmc x' (.slice none x'.ifs.length 0) (.slice none x'.thens.length 0) (.slice none x'.elses.length 0)).toArray)
    (hi : x'.ifs = x.ifs) (ht : x'.thens = []) (he : x'.elses = []) : Dk w0 w' K p br st x' none none none 0 0 0 :=
  h.putL ss hb hi (by rw [ht]; exact (Row.none w' 7).rd) (by rw [he]; exact (Row.none w' 7).rd) (by simp [blks]) (by simp [blks])
/-! ### calls -/
end
theorem letterQ {K : Act → World → Prop} {a : Act} {w : World} (h : ∀ U, U = w → K a U) : K a w := h w rfl
end Go.Proofs.Ytjfaplmojpldhaa
