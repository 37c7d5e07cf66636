/-
  What Decode of a request calls, with what stands besides: the reader, its pointer, the flat form that is filled. Condition: texts of at most 2^40 bytes.
-/
import Derived.Test.YtjfaplmojpldhaaReqC
import Derived.Test.YtjfaplmojpldhaaReqJ
import Derived.Test.YtjfaplmojpldhaaMemRow
namespace Go.Proofs.Ytjfaplmojpldhaa
open Go.RowKit
set_option linter.unusedSimpArgs false
set_option linter.unusedVariables false
set_option maxRecDepth 100000

abbrev ptrC (p : Nat) : Array Value := #[.pointer (some ⟨p, 0, none⟩)]
/-- A reader in block `p`, and the blocks of `K`, all of them new since `w0`. -/
structure Dk0 (w0 w : World) (K : List (Nat × TypeId × Array Value)) (p : Nat) (st : RS) : Prop where
  rdr : Rdr w p st
  blk : ∀ q ∈ K, Blk w q.1 q.2.1 q.2.2 ∧ q.1 ≠ p ∧ w0.heap.size ≤ q.1
  out : Step [] [] w0 w
  fp : w0.heap.size ≤ p
  len : st.s.length ≤ 1099511627776
abbrev CB (br : Nat) (x : Cm) (a1 a2 a3 : Option Addr) (c1 c2 c3 : Nat) : Nat × TypeId × Array Value := (br, 44, (cmc x (.slice a1 x.ifs.length c1) (.slice a2 x.thens.length c2) (.slice a3 x.elses.length c3)).toArray)
/-- With the flat form `x` in block `br`. -/
structure Dk (w0 w : World) (K : List (Nat × TypeId × Array Value)) (p br : Nat) (st : RS) (x : Cm) (a1 a2 a3 : Option Addr) (c1 c2 c3 : Nat) : Prop where
  base : Dk0 w0 w (CB br x a1 a2 a3 c1 c2 c3 :: K) p st
  ne : ∀ q ∈ K, q.1 ≠ br
  i : Row w 4 a1 x.ifs.length c1 (cpcs x.ifs)
  t : Rd w 7 a2 x.thens.length (dacs x.thens)
  e : Rd w 7 a3 x.elses.length (dacs x.elses)
  di : ∀ g ∈ blks a1, w0.heap.size ≤ g ∧ g ≠ p ∧ g ≠ br ∧ ∀ q ∈ K, g ≠ q.1
  dt : ∀ g ∈ blks a2, g ≠ p ∧ g ≠ br
  de : ∀ g ∈ blks a3, g ≠ p ∧ g ≠ br
section
variable {w0 w w' : World} {K : List (Nat × TypeId × Array Value)} {p br pp : Nat} {st st' : RS} {x x' : Cm} {a1 a2 a3 : Option Addr} {c1 c2 c3 : Nat}
theorem Dk0.read (h : Dk0 w0 w K p st) (g : Rdr w' p st') (k : Step [p] [p] w w') (hl : st'.s.length ≤ st.s.length) : Dk0 w0 w' K p st' :=
  ⟨g, fun q hq => ⟨(h.blk q hq).1.step k (by simpa using (h.blk q hq).2.1), (h.blk q hq).2⟩, h.out.own k h.fp, h.fp, by have := h.len; omega⟩
theorem Dk0.quiet (h : Dk0 w0 w K p st) (k : Step [] [] w w') : Dk0 w0 w' K p st :=
  ⟨Rdr.step h.rdr k (by simp), fun q hq => ⟨(h.blk q hq).1.step k (by simp), (h.blk q hq).2⟩, h.out.trans k, h.fp, h.len⟩
theorem Dk0.push (h : Dk0 w0 w K p st) (T : TypeId) (cs : Array Value) : Dk0 w0 (w.alloc (.cells cs T)) ((w.heap.size, T, cs) :: K) p st := by
  refine ⟨Rdr.step h.rdr ((Step.refl [] w).alloc _) (by simp), fun q hq => ?_, h.out.alloc _, h.fp, h.len⟩
  rcases List.mem_cons.1 hq with rfl | hq
  · exact ⟨Blk.new w T cs, by have := Blk.lt h.rdr; simp only; omega, h.out.size⟩
  · exact ⟨(h.blk q hq).1.alloc _, (h.blk q hq).2⟩
theorem Dk0.fresh (h : Dk0 w0 w K p st) : ∀ q ∈ K, q.1 ≠ w.heap.size := fun q hq e => by have := (h.blk q hq).1.lt; omega
theorem Dk.quiet (h : Dk w0 w K p br st x a1 a2 a3 c1 c2 c3) (k : Step [] [] w w') : Dk w0 w' K p br st x a1 a2 a3 c1 c2 c3 :=
  ⟨h.base.quiet k, h.ne, h.i.step k (by simp), h.t.step0 k, h.e.step0 k, h.di, h.dt, h.de⟩
theorem Dk.read (h : Dk w0 w K p br st x a1 a2 a3 c1 c2 c3) (g : Rdr w' p st') (k : Step [p] [p] w w') (hl : st'.s.length ≤ st.s.length) : Dk w0 w' K p br st' x a1 a2 a3 c1 c2 c3 :=
  ⟨h.base.read g k hl, h.ne, h.i.step k (fun g hg => by simpa using (h.di g hg).2.1), h.t.step k (fun g hg => by simpa using (h.dt g hg).1), h.e.step k (fun g hg => by simpa using (h.de g hg).1), h.di, h.dt, h.de⟩
theorem Dk.cmd (h : Dk w0 w K p br st x a1 a2 a3 c1 c2 c3) : Blk w br 44 (cmc x (.slice a1 x.ifs.length c1) (.slice a2 x.thens.length c2) (.slice a3 x.elses.length c3)).toArray := (h.base.blk _ (List.mem_cons_self ..)).1
theorem Dk.blk (h : Dk w0 w K p br st x a1 a2 a3 c1 c2 c3) {b : Nat} {T : TypeId} {cs : Array Value} (hq : (b, T, cs) ∈ K) : Blk w b T cs := (h.base.blk _ (List.mem_cons_of_mem _ hq)).1
theorem Dk.out (h : Dk w0 w K p br st x a1 a2 a3 c1 c2 c3) : Step [] [] w0 w := h.base.out
theorem Dk.rdc (h : Dk w0 w K p br st x a1 a2 a3 c1 c2 c3) : RdC w x a1 a2 a3 := ⟨h.i.rd, h.t, h.e⟩
theorem Dk.new {x : Cm} (h : Dk0 w0 w K p st) (h1 : x.ifs = []) (h2 : x.thens = []) (h3 : x.elses = []) (hb : ∀ q ∈ K, q.1 ≠ br) (hc : Dk0 w0 w (CB br x none none none 0 0 0 :: K) p st) : Dk w0 w K p br st x none none none 0 0 0 :=
  ⟨hc, hb, by rw [h1]; exact Row.none w 4, by rw [h2]; exact (Row.none w 7).rd, by rw [h3]; exact (Row.none w 7).rd, by simp [blks], by simp [blks], by simp [blks]⟩
/-- The flat form is written. -/
theorem Dk.putL {b2 b3 : Option Addr} {e2 e3 : Nat} (h : Dk w0 w K p br st x a1 a2 a3 c1 c2 c3) (ss : Step [br] [br] w w') (hb : Blk w' br 44 (cmc x' (.slice a1 x'.ifs.length c1) (.slice b2 x'.thens.length e2) (.slice b3 x'.elses.length e3)).toArray)
    (hi : x'.ifs = x.ifs) (ht : Rd w' 7 b2 x'.thens.length (dacs x'.thens)) (he : Rd w' 7 b3 x'.elses.length (dacs x'.elses)) (dt' : ∀ g ∈ blks b2, g ≠ p ∧ g ≠ br) (de' : ∀ g ∈ blks b3, g ≠ p ∧ g ≠ br) : Dk w0 w' K p br st x' a1 b2 b3 c1 e2 e3 := by
  have fb := (h.base.blk _ (List.mem_cons_self ..)).2
  refine ⟨⟨Rdr.step h.base.rdr ss (by simpa using fb.1.symm), fun q hq => ?_, h.base.out.own ss fb.2, h.base.fp, h.base.len⟩, h.ne, ?_, ht, he, h.di, dt', de'⟩
  · rcases List.mem_cons.1 hq with rfl | hq
    · exact ⟨hb, fb⟩
    · have := h.base.blk q (List.mem_cons_of_mem _ hq)
      exact ⟨this.1.step ss (by simpa using h.ne q hq), this.2⟩
  · rw [hi]
    exact h.i.step ss (fun g hg => by simpa using (h.di g hg).2.2.1)
theorem Dk.put0 (h : Dk w0 w K p br st x none none none 0 0 0) (ss : Step [br] [br] w w') (hb : Blk w' br 44 (cmc x' (.slice none x'.ifs.length 0) (.slice none x'.thens.length 0) (.slice none x'.elses.length 0)).toArray)
    (hi : x'.ifs = x.ifs) (ht : x'.thens = []) (he : x'.elses = []) : Dk w0 w' K p br st x' none none none 0 0 0 :=
  h.putL ss hb hi (by rw [ht]; exact (Row.none w' 7).rd) (by rw [he]; exact (Row.none w' 7).rd) (by simp [blks]) (by simp [blks])
/-- The compares have grown by one. -/
theorem Dk.mid {a9 : Option Addr} (h : Dk w0 w K p br st x a1 none none c1 0 0) (st9 : Step (blks a1) (blks a9) w w') : Blk w' br 44 (cmc x (.slice a1 x.ifs.length c1) (.slice none x.thens.length 0) (.slice none x.elses.length 0)).toArray ∧ ∀ q ∈ K, Blk w' q.1 q.2.1 q.2.2 :=
  ⟨h.cmd.step st9 (fun hg => (h.di br hg).2.2.1 rfl), fun q hq => (h.base.blk q (List.mem_cons_of_mem _ hq)).1.step st9 (fun hg => (h.di _ hg).2.2.2 q hq rfl)⟩
theorem Dk.grow {a9 : Option Addr} {c9 : Nat} {c : Cp} (h : Dk w0 w K p br st x a1 none none c1 0 0) (st9 : Step (blks a1) (blks a9) w w') (hr9 : Row w' 4 a9 (x.ifs.length + 1) c9 (cpcs x.ifs ++ cpc c)) (hx : x' = { x with ifs := x.ifs ++ [c] }) :
    Dk w0 (w'.setCell ⟨br, 15, none⟩ (.slice a9 (x.ifs.length + 1) c9)) K p br st x' a9 none none c9 0 0 := by
  subst hx
  have m := h.mid st9
  have fb := (h.base.blk _ (List.mem_cons_self ..)).2
  have np : p ∉ blks a1 := fun hg => (h.di p hg).2.1 rfl
  have nb : br ∉ blks a1 := fun hg => (h.di br hg).2.2.1 rfl
  have mp := st9.notin (Blk.lt h.base.rdr) np
  have mb := st9.notin h.cmd.lt nb
  have ss : Step [br] [br] w' (w'.setCell ⟨br, 15, none⟩ (.slice a9 (x.ifs.length + 1) c9)) := (Step.refl _ w').setCell (.inl (by simp)) _
  have so : Step [] [] w0 w' := h.base.out.out1' st9 (fun g hg => (h.di g hg).1)
  refine ⟨⟨Rdr.step (Rdr.step h.base.rdr st9 np) ss (by simpa using fb.1.symm), fun q hq => ?_, so.own ss fb.2, h.base.fp, h.base.len⟩, h.ne, ?_, ?_, ?_, fun g hg => ⟨?_, fun e => mp (e ▸ hg), fun e => mb (e ▸ hg), fun q hq e => ?_⟩, by simp [blks], by simp [blks]⟩
  · rcases List.mem_cons.1 hq with rfl | hq
    · refine ⟨?_, fb⟩
      have := m.1.set 15 (.slice a9 (x.ifs.length + 1) c9)
      simpa [cmc] using this
    · exact ⟨(m.2 q hq).step ss (by simpa using h.ne q hq), (h.base.blk q (List.mem_cons_of_mem _ hq)).2⟩
  · have := hr9.step ss (fun g hg e => by simp at e; subst e; exact mb hg)
    simpa [cpcs] using this
  · exact (h.t.step st9 (by simp [blks])).step ss (by simp [blks])
  · exact (h.e.step st9 (by simp [blks])).step ss (by simp [blks])
  · rcases st9.fresh g hg with hm | hm
    · exact (h.di g hm).1
    · exact Nat.le_trans h.base.out.size hm
  · have q1 := (h.base.blk q (List.mem_cons_of_mem _ hq)).1
    exact st9.notin q1.lt (fun hg => (h.di _ hg).2.2.2 q hq rfl) (e ▸ hg)
/-! ### calls -/
theorem dk0_upto (h : Dk0 w0 w K p st) (m : Int) : Calls Try.prog 33 #[.pointer (some ⟨p, 0, none⟩), .int .i64 m] w fun e w' => e = .returned (.int .i64 (upto st m).1) ∧ Dk0 w0 w' K p (upto st m).2 := by
  refine (upto_any p st m w h.rdr (by have := h.len; omega)).mono ?_
  rintro e w' ⟨he, g, k⟩
  exact ⟨he, h.read g k (upto_len st _)⟩
theorem dk0_num (h : Dk0 w0 w K p st) : Calls Try.prog 66 #[.pointer (some ⟨p, 0, none⟩)] w fun e w' => e = .returned (.int .i64 (rnum st).1) ∧ Dk0 w0 w' K p (rnum st).2 := by
  refine (rnum_any p st w h.rdr (by have := h.len; omega)).mono ?_
  rintro e w' ⟨he, g, k⟩
  exact ⟨he, h.read g k (upto_len st _)⟩
theorem dk_upto (h : Dk w0 w K p br st x a1 a2 a3 c1 c2 c3) (m : Int) : Calls Try.prog 33 #[.pointer (some ⟨p, 0, none⟩), .int .i64 m] w fun e w' => e = .returned (.int .i64 (upto st m).1) ∧ Dk w0 w' K p br (upto st m).2 x a1 a2 a3 c1 c2 c3 := by
  refine (upto_any p st m w h.base.rdr (by have := h.base.len; omega)).mono ?_
  rintro e w' ⟨he, g, k⟩
  exact ⟨he, h.read g k (upto_len st _)⟩
theorem dk_num (h : Dk w0 w K p br st x a1 a2 a3 c1 c2 c3) : Calls Try.prog 66 #[.pointer (some ⟨p, 0, none⟩)] w fun e w' => e = .returned (.int .i64 (rnum st).1) ∧ Dk w0 w' K p br (rnum st).2 x a1 a2 a3 c1 c2 c3 := by
  refine (rnum_any p st w h.base.rdr (by have := h.base.len; omega)).mono ?_
  rintro e w' ⟨he, g, k⟩
  exact ⟨he, h.read g k (upto_len st _)⟩
theorem dk_flag (h : Dk w0 w K p br st x a1 a2 a3 c1 c2 c3) : Calls Try.prog 67 #[.pointer (some ⟨p, 0, none⟩)] w fun e w' => e = .returned (.bool (rflag st).1) ∧ Dk w0 w' K p br (rflag st).2 x a1 a2 a3 c1 c2 c3 := by
  refine (rflag_any p st w h.base.rdr (by have := h.base.len; omega)).mono ?_
  rintro e w' ⟨he, g, k⟩
  exact ⟨he, h.read g k (upto_len st _)⟩
theorem dk_left (h : Dk w0 w K p br st x a1 a2 a3 c1 c2 c3) : Calls Try.prog 68 #[.pointer (some ⟨p, 0, none⟩)] w fun e w' => e = .returned (.int .i64 st.s.length) ∧ w = w' := left_any p st w h.base.rdr
theorem dk_end (h : Dk w0 w K p br st x a1 a2 a3 c1 c2 c3) : Calls Try.prog 34 #[.pointer (some ⟨p, 0, none⟩)] w fun e w' => e = .returned (.int .i64 (rend st)) ∧ w = w' := end_any p st w h.base.rdr
theorem actsR_slen (n : Nat) (l : List Da) (s : RS) : (actsR n l s).2.s.length ≤ s.s.length := by
  have ha : ∀ s : RS, (actR 8192 s).2.s.length ≤ s.s.length := by
    intro s
    have e0 := upto_len s 3
    have tl := fun s => rtext_len3 s 8192
    have nl := fun s : RS => upto_len s 4611686018427387903
    unfold actR rnum
    simp only
    repeat' split
    · have q1 := tl (upto s 3).2; have q2 := tl (rtext (upto s 3).2 8192).2; have q3 := nl (rtext (rtext (upto s 3).2 8192).2 8192).2; have q4 := nl (upto (rtext (rtext (upto s 3).2 8192).2 8192).2 4611686018427387903).2; simp only; omega
    · have q1 := tl (upto s 3).2; have q2 := tl (rtext (upto s 3).2 8192).2; simp only; omega
    · have q1 := tl (upto s 3).2; have q2 := tl (rtext (upto s 3).2 8192).2; simp only; omega
    · simp [rfail]
  induction n generalizing l s with
  | zero => simp [actsR]
  | succ n ih =>
    unfold actsR
    split
    · exact ha s
    · exact Nat.le_trans (ih _ _) (ha s)
theorem rdActs_slen (s : RS) : (rdActs s).2.s.length ≤ s.s.length := Nat.le_trans (actsR_slen _ _ _) (upto_len s _)
def DkActsP (w0 : World) (K : List (Nat × TypeId × Array Value)) (p br : Nat) (st : RS) (x : Cm) (a1 a2 a3 : Option Addr) (c1 c2 c3 : Nat) (e : Ending) (w' : World) : Prop :=
  ∃ a cap, e = .returned (.slice a (rdActs st).1.length cap) ∧ Dk w0 w' K p br (rdActs st).2 x a1 a2 a3 c1 c2 c3 ∧ Rd w' 7 a (rdActs st).1.length (dacs (rdActs st).1) ∧ (∀ g ∈ blks a, g ≠ p ∧ g ≠ br)
end
theorem letterQ {K : Act → World → Prop} {a : Act} {w : World} (h : ∀ U, U = w → K a U) : K a w := h w rfl
theorem cpc_one (e : Cp) : ∀ u ∈ cpc e, u.oneCell' = true := by
  intro u hu
  simp [cpc] at hu
  rcases hu with rfl | rfl | rfl | rfl <;> rfl
theorem Try.sReq : StructOf Try.prog 99 4 := ⟨by kernel_rfl, _, Try.underlying99⟩
theorem bodyV_one (y : Cm) (s1 s2 s3 : Value) : (bodyV y s1 s2 s3).oneCell' = true := by
  unfold bodyV
  repeat' split
  all_goals rfl
abbrev rqZ : Array Value := #[.int .i64 0, .int .i64 0, .string ⟨#[]⟩, .nilIface]
end Go.Proofs.Ytjfaplmojpldhaa
