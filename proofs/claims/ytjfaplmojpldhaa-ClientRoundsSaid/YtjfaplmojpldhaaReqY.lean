/-
  The reference's Read and readActs as plain Lean; what stands while they run. No condition.
-/
import Derived.Test.YtjfaplmojpldhaaReqK
import Derived.Test.YtjfaplmojpldhaaReqPlain6
import Derived.Test.YtjfaplmojpldhaaPackRefR
namespace Go.Proofs.Ytjfaplmojpldhaa
open Go.RowKit
set_option linter.unusedSimpArgs false
set_option linter.unusedVariables false
set_option maxRecDepth 100000

abbrev mostN : Int := 4611686018427387903
def actsF : Nat → List Da → RS → List Da × RS
  | 0, l, st => (l, st)
  | n + 1, l, st => if st.bad = true then (l, st) else actsF n (l ++ [(actR mostN st).1]) (actR mostN st).2
def rdActsF (st : RS) : List Da × RS := actsF (rnum st).1.toNat [] (rnum st).2
def cmpsF : Nat → List Cp → RS → List Cp × RS
  | 0, l, st => (l, st)
  | n + 1, l, st => if st.bad = true then (l, st) else cmpsF n (l ++ [(cmpR mostN st).1]) (cmpR mostN st).2
def rdCmpsF (st : RS) : List Cp × RS := cmpsF (rnum st).1.toNat [] (rnum st).2
theorem actsF_back (m : List Da) (l : List Da) (r : List UInt8) (h : ∀ d ∈ m, DaOk d) (hl : (itsB (m.flatMap daIts)).length ≤ 8192) : actsF m.length l ⟨itsB (m.flatMap daIts) ++ r, false⟩ = (l ++ m, ⟨r, false⟩) := by
  induction m generalizing l with
  | nil => simp [actsF, itsB_nil]
  | cons d m ih =>
    rw [List.flatMap_cons, itsB_app, List.length_append] at hl
    rw [List.flatMap_cons, itsB_app, List.append_assoc, List.length_cons]
    unfold actsF
    rw [act_back d _ mostN (h d (by simp)) (by omega) (by simp [mostN])]
    rw [if_neg (by simp), ih _ (fun x hx => h x (by simp [hx])) (by omega)]
    simp
theorem rdActsF_back (m : List Da) (r : List UInt8) (h : ∀ d ∈ m, DaOk d) (hl : (itsB (dasIts m)).length ≤ 8192) (hm : m.length ≤ 8192) : rdActsF ⟨itsB (dasIts m) ++ r, false⟩ = (m, ⟨r, false⟩) := by
  rw [dasIts, itsB_cons, List.length_append] at hl
  rw [dasIts, itsB_cons, nI_B, List.append_assoc]
  unfold rdActsF
  rw [numQ_back _ _ (okLen (by omega))]
  simp only [Int.toNat_natCast]
  rw [actsF_back m [] r h (by omega)]
  simp
theorem cmpsF_back (m : List Cp) (l : List Cp) (r : List UInt8) (h : ∀ d ∈ m, CpOk d) (hl : (itsB (m.flatMap cpIts)).length ≤ 8192) : cmpsF m.length l ⟨itsB (m.flatMap cpIts) ++ r, false⟩ = (l ++ m, ⟨r, false⟩) := by
  induction m generalizing l with
  | nil => simp [cmpsF, itsB_nil]
  | cons d m ih =>
    rw [List.flatMap_cons, itsB_app, List.length_append] at hl
    rw [List.flatMap_cons, itsB_app, List.append_assoc, List.length_cons]
    unfold cmpsF
    rw [cmp_back d _ mostN (h d (by simp)) (by omega) (by simp [mostN])]
    rw [if_neg (by simp), ih _ (fun x hx => h x (by simp [hx])) (by omega)]
    simp
theorem rdCmpsF_back (m : List Cp) (r : List UInt8) (h : ∀ d ∈ m, CpOk d) (hl : (itsB (cpsIts m)).length ≤ 8192) (hm : m.length ≤ 8192) : rdCmpsF ⟨itsB (cpsIts m) ++ r, false⟩ = (m, ⟨r, false⟩) := by
  rw [cpsIts, itsB_cons, List.length_append] at hl
  rw [cpsIts, itsB_cons, nI_B, List.append_assoc]
  unfold rdCmpsF
  rw [numQ_back _ _ (okLen (by omega))]
  simp only [Int.toNat_natCast]
  rw [cmpsF_back m [] r h (by omega)]
  simp
/-! ### each turn eats a byte, or the reader is bad -/
theorem upto_bad {st : RS} (m : Int) (h : st.bad = true) : upto st m = (0, rfail) := by simp [upto, h]
theorem rtext_bad {st : RS} (m : Int) (h : st.bad = true) : (rtext st m).2 = rfail := by simp [rtext, rtake, upto_bad m h, rfail]
theorem upto_less (st : RS) (m : Int) : (upto st m).2 = rfail ∨ (upto st m).2.s.length < st.s.length := by
  obtain ⟨s, b⟩ := st
  unfold upto
  split
  · exact .inl rfl
  · split
    · exact .inl rfl
    · split
      · exact .inl rfl
      · rename_i h1 _ hd rest h2 h3
        simp only at h2
        subst h2
        unfold uptoFin
        split
        · exact .inl rfl
        · right
          simp
          omega
theorem rtext_fail (m : Int) : (rtext rfail m).2 = rfail := rtext_bad m rfl
theorem upto_fail (m : Int) : (upto rfail m).2 = rfail := by rw [upto_bad m rfl]
theorem rtext_less (st : RS) (m : Int) : (rtext st m).2 = rfail ∨ (rtext st m).2.s.length < st.s.length := by
  rcases upto_less st m with h | h
  · left
    simp [rtext, rtake, h, rfail]
  · unfold rtext rtake
    split
    · exact .inl rfl
    · right
      simp only [List.length_drop]
      omega
theorem actR_less (st : RS) (m : Int) : (actR m st).2 = rfail ∨ (actR m st).2.s.length < st.s.length := by
  have tl := fun s => (rtext_len s m).2
  have nl := fun s : RS => upto_len s 4611686018427387903
  unfold actR rnum
  simp only
  repeat' split
  · rcases upto_less st 3 with h | h
    · left; simp only [h, rtext_fail, upto_fail]
    · right; have q1 := tl (upto st 3).2; have q2 := tl (rtext (upto st 3).2 m).2; have q3 := nl (rtext (rtext (upto st 3).2 m).2 m).2; have q4 := nl (upto (rtext (rtext (upto st 3).2 m).2 m).2 4611686018427387903).2; simp only; omega
  · rcases upto_less st 3 with h | h
    · left; simp only [h, rtext_fail]
    · right; have q1 := tl (upto st 3).2; have q2 := tl (rtext (upto st 3).2 m).2; simp only; omega
  · rcases upto_less st 3 with h | h
    · left; simp only [h, rtext_fail]
    · right; have q1 := tl (upto st 3).2; have q2 := tl (rtext (upto st 3).2 m).2; simp only; omega
  · exact .inl rfl
theorem cmpR_less (st : RS) (m : Int) : (cmpR m st).2 = rfail ∨ (cmpR m st).2.s.length < st.s.length := by
  have tl := fun s => (rtext_len s m).2
  have nl := fun s : RS => upto_len s 4611686018427387903
  unfold cmpR rnum
  simp only
  rcases rtext_less st m with h | h
  · left; simp only [h, rtext_fail, upto_fail]
  · right
    have q1 := nl (rtext st m).2
    have q2 := nl (upto (rtext st m).2 4611686018427387903).2
    have q3 := tl (upto (upto (rtext st m).2 4611686018427387903).2 4611686018427387903).2
    omega
/-- While acts are read: the reader, the acts so far (an own slice). -/
def Af (w0 w : World) (p : Nat) (st : RS) (l : List Da) (a : Option Addr) (cap : Nat) : Prop :=
  Ref w p st ∧ Row w 7 a l.length cap (dacs l) ∧ Step [p] (p :: blks a) w0 w ∧ (∀ g ∈ blks a, w0.heap.size ≤ g) ∧ p < w0.heap.size ∧ st.s.length ≤ 1099511627776
/-- With the act that is read, in block `eb`. -/
def Bf (w0 w : World) (p : Nat) (st : RS) (l : List Da) (a : Option Addr) (cap : Nat) (eb : Nat) (d : Da) : Prop :=
  Af w0 w p st l a cap ∧ Blk w eb 108 (dac d).toArray ∧ w0.heap.size ≤ eb ∧ eb ∉ blks a
section
variable {w0 w w' : World} {p : Nat} {st st' : RS} {l : List Da} {a : Option Addr} {cap eb : Nat} {d d' : Da}
theorem Af.read (h : Af w0 w p st l a cap) (g : Ref w' p st') (k : Step [p] [p] w w') (hl : st'.s.length ≤ st.s.length) : Af w0 w' p st' l a cap := by
  obtain ⟨h1, h2, h3, h4, h5, h6⟩ := h
  exact ⟨g, h2.step k (fun j hj e => by simp at e; subst e; have := h4 _ hj; omega), h3.trans (by simpa using k.frameR (blks a)), h4, h5, by omega⟩
theorem Bf.read (h : Bf w0 w p st l a cap eb d) (g : Ref w' p st') (k : Step [p] [p] w w') (hl : st'.s.length ≤ st.s.length) : Bf w0 w' p st' l a cap eb d := by
  obtain ⟨h1, h2, h3, h4⟩ := h
  exact ⟨h1.read g k hl, h2.step k (by simp; have := h1.2.2.2.2.1; omega), h3, h4⟩
theorem Bf.new (h : Af w0 w p st l a cap) (d : Da) : Bf w0 (w.alloc (.cells (dac d).toArray 108)) p st l a cap w.heap.size d := by
  obtain ⟨h1, h2, h3, h4, h5, h6⟩ := h
  exact ⟨⟨h1.alloc _, h2.alloc _, h3.alloc _, h4, h5, h6⟩, Blk.new w _ _, h3.size, fun hm => Nat.lt_irrefl _ (h2.lt _ hm)⟩
theorem Bf.put (h : Bf w0 w p st l a cap eb d) (k : Step [eb] [eb] w w') (hb : Blk w' eb 108 (dac d').toArray) : Bf w0 w' p st l a cap eb d' := by
  obtain ⟨⟨h1, h2, h3, h4, h5, h6⟩, h7, h8, h9⟩ := h
  exact ⟨⟨Ref.step h1 k (by simp; omega), h2.step k (fun g hg e => by simp at e; subst e; exact h9 hg), h3.own k h8, h4, h5, h6⟩, hb, h8, h9⟩
theorem af_upto (h : Af w0 w p st l a cap) (m : Int) : Calls Try.prog 36 #[.pointer (some ⟨p, 0, none⟩), .int .i64 m] w fun e w' => e = .returned (.int .i64 (upto st m).1) ∧ Af w0 w' p (upto st m).2 l a cap := by
  refine (refNum_any p st m w h.1 (by have := h.2.2.2.2.2; omega)).mono ?_
  rintro e w' ⟨he, g, k⟩
  exact ⟨he, h.read g k (upto_len st _)⟩
theorem bf_upto (h : Bf w0 w p st l a cap eb d) (m : Int) : Calls Try.prog 36 #[.pointer (some ⟨p, 0, none⟩), .int .i64 m] w fun e w' => e = .returned (.int .i64 (upto st m).1) ∧ Bf w0 w' p (upto st m).2 l a cap eb d := by
  refine (refNum_any p st m w h.1.1 (by have := h.1.2.2.2.2.2; omega)).mono ?_
  rintro e w' ⟨he, g, k⟩
  exact ⟨he, h.read g k (upto_len st _)⟩
theorem bf_text (h : Bf w0 w p st l a cap eb d) (m : Int) : Calls Try.prog 43 #[.pointer (some ⟨p, 0, none⟩), .int .i64 m] w fun e w' => e = .returned (Str (rtext st m).1) ∧ Bf w0 w' p (rtext st m).2 l a cap eb d := by
  refine (refText_any p st m w h.1.1 (by have := h.1.2.2.2.2.2; omega)).mono ?_
  rintro e w' ⟨he, g, k⟩
  exact ⟨he, h.read g k (rtext_len3 st m)⟩
theorem Bf.grow {a9 : Option Addr} {cap9 : Nat} (h : Bf w0 w p st l a cap eb d) (s9 : Step [] [] w w') {w9 : World} (st9 : Step (blks a) (blks a9) w' w9) (hr9 : Row w9 7 a9 (l.length + 1) cap9 (dacs l ++ dacs [d])) : Af w0 w9 p st (l ++ [d]) a9 cap9 := by
  obtain ⟨⟨h1, h2, h3, h4, h5, h6⟩, h7, h8, h9⟩ := h
  refine ⟨Ref.step (Ref.step h1 s9 (by simp)) st9 (fun hm => by have := h4 _ hm; omega), by rw [List.length_append, dacs_app]; exact hr9, ?_, fun g hg => ?_, h5, h6⟩
  · exact (h3.trans (by simpa using s9.frame (p :: blks a))).trans (st9.frame [p])
  · rcases st9.fresh g hg with hm | hm
    · exact h4 g hm
    · exact Nat.le_trans (Nat.le_trans h3.size s9.size) hm
end
/-- A reader in block `p`, and the blocks of `K`, all of them new since `w0`. -/
structure Df0 (w0 w : World) (K : List (Nat × TypeId × Array Value)) (p : Nat) (st : RS) : Prop where
  rdr : Ref w p st
  blk : ∀ q ∈ K, Blk w q.1 q.2.1 q.2.2 ∧ q.1 ≠ p ∧ w0.heap.size ≤ q.1
  out : Step [] [] w0 w
  fp : w0.heap.size ≤ p
  len : st.s.length ≤ 1099511627776
/-- With the flat form `x` in block `br`. -/
structure Df (w0 w : World) (K : List (Nat × TypeId × Array Value)) (p br : Nat) (st : RS) (x : Cm) (a1 a2 a3 : Option Addr) (c1 c2 c3 : Nat) : Prop where
  base : Df0 w0 w (CB br x a1 a2 a3 c1 c2 c3 :: K) p st
  ne : ∀ q ∈ K, q.1 ≠ br
  i : Row w 4 a1 x.ifs.length c1 (cpcs x.ifs)
  t : Rd w 7 a2 x.thens.length (dacs x.thens)
  e : Rd w 7 a3 x.elses.length (dacs x.elses)
  di : ∀ g ∈ blks a1, w0.heap.size ≤ g ∧ g ≠ p ∧ g ≠ br ∧ ∀ q ∈ K, g ≠ q.1
  dt : ∀ g ∈ blks a2, g ≠ p ∧ g ≠ br
  de : ∀ g ∈ blks a3, g ≠ p ∧ g ≠ br
section
variable {w0 w w' : World} {K : List (Nat × TypeId × Array Value)} {p br pp : Nat} {st st' : RS} {x x' : Cm} {a1 a2 a3 : Option Addr} {c1 c2 c3 : Nat}
theorem Df0.read (h : Df0 w0 w K p st) (g : Ref w' p st') (k : Step [p] [p] w w') (hl : st'.s.length ≤ st.s.length) : Df0 w0 w' K p st' :=
  ⟨g, fun q hq => ⟨(h.blk q hq).1.step k (by simpa using (h.blk q hq).2.1), (h.blk q hq).2⟩, h.out.own k h.fp, h.fp, by have := h.len; omega⟩
theorem Df0.quiet (h : Df0 w0 w K p st) (k : Step [] [] w w') : Df0 w0 w' K p st :=
  ⟨Ref.step h.rdr k (by simp), fun q hq => ⟨(h.blk q hq).1.step k (by simp), (h.blk q hq).2⟩, h.out.trans k, h.fp, h.len⟩
theorem Df0.push (h : Df0 w0 w K p st) (T : TypeId) (cs : Array Value) : Df0 w0 (w.alloc (.cells cs T)) ((w.heap.size, T, cs) :: K) p st := by
  refine ⟨Ref.step h.rdr ((Step.refl [] w).alloc _) (by simp), fun q hq => ?_, h.out.alloc _, h.fp, h.len⟩
  rcases List.mem_cons.1 hq with rfl | hq
  · exact ⟨Blk.new w T cs, by have := Blk.lt h.rdr; simp only; omega, h.out.size⟩
  · exact ⟨(h.blk q hq).1.alloc _, (h.blk q hq).2⟩
theorem Df0.fresh (h : Df0 w0 w K p st) : ∀ q ∈ K, q.1 ≠ w.heap.size := fun q hq e => by have := (h.blk q hq).1.lt; omega
theorem Df.quiet (h : Df w0 w K p br st x a1 a2 a3 c1 c2 c3) (k : Step [] [] w w') : Df w0 w' K p br st x a1 a2 a3 c1 c2 c3 :=
  ⟨h.base.quiet k, h.ne, h.i.step k (by simp), h.t.step0 k, h.e.step0 k, h.di, h.dt, h.de⟩
theorem Df.read (h : Df w0 w K p br st x a1 a2 a3 c1 c2 c3) (g : Ref w' p st') (k : Step [p] [p] w w') (hl : st'.s.length ≤ st.s.length) : Df w0 w' K p br st' x a1 a2 a3 c1 c2 c3 :=
  ⟨h.base.read g k hl, h.ne, h.i.step k (fun g hg => by simpa using (h.di g hg).2.1), h.t.step k (fun g hg => by simpa using (h.dt g hg).1), h.e.step k (fun g hg => by simpa using (h.de g hg).1), h.di, h.dt, h.de⟩
theorem Df.cmd (h : Df w0 w K p br st x a1 a2 a3 c1 c2 c3) : Blk w br 44 (cmc x (.slice a1 x.ifs.length c1) (.slice a2 x.thens.length c2) (.slice a3 x.elses.length c3)).toArray := (h.base.blk _ (List.mem_cons_self ..)).1
theorem Df.blk (h : Df w0 w K p br st x a1 a2 a3 c1 c2 c3) {b : Nat} {T : TypeId} {cs : Array Value} (hq : (b, T, cs) ∈ K) : Blk w b T cs := (h.base.blk _ (List.mem_cons_of_mem _ hq)).1
theorem Df.out (h : Df w0 w K p br st x a1 a2 a3 c1 c2 c3) : Step [] [] w0 w := h.base.out
theorem Df.rdc (h : Df w0 w K p br st x a1 a2 a3 c1 c2 c3) : RdC w x a1 a2 a3 := ⟨h.i.rd, h.t, h.e⟩
theorem Df.new {x : Cm} (h : Df0 w0 w K p st) (h1 : x.ifs = []) (h2 : x.thens = []) (h3 : x.elses = []) (hb : ∀ q ∈ K, q.1 ≠ br) (hc : Df0 w0 w (CB br x none none none 0 0 0 :: K) p st) : Df w0 w K p br st x none none none 0 0 0 :=
  ⟨hc, hb, by rw [h1]; exact Row.none w 4, by rw [h2]; exact (Row.none w 7).rd, by rw [h3]; exact (Row.none w 7).rd, by simp [blks], by simp [blks], by simp [blks]⟩
/-- The flat form is written. -/
theorem Df.putL {b2 b3 : Option Addr} {e2 e3 : Nat} (h : Df w0 w K p br st x a1 a2 a3 c1 c2 c3) (ss : Step [br] [br] w w') (hb : Blk w' br 44 (cmc x' (.slice a1 x'.ifs.length c1) (.slice b2 x'.thens.length e2) (.slice b3 x'.elses.length e3)).toArray)
    (hi : x'.ifs = x.ifs) (ht : Rd w' 7 b2 x'.thens.length (dacs x'.thens)) (he : Rd w' 7 b3 x'.elses.length (dacs x'.elses)) (dt' : ∀ g ∈ blks b2, g ≠ p ∧ g ≠ br) (de' : ∀ g ∈ blks b3, g ≠ p ∧ g ≠ br) : Df w0 w' K p br st x' a1 b2 b3 c1 e2 e3 := by
  have fb := (h.base.blk _ (List.mem_cons_self ..)).2
  refine ⟨⟨Ref.step h.base.rdr ss (by simpa using fb.1.symm), fun q hq => ?_, h.base.out.own ss fb.2, h.base.fp, h.base.len⟩, h.ne, ?_, ht, he, h.di, dt', de'⟩
  · rcases List.mem_cons.1 hq with rfl | hq
    · exact ⟨hb, fb⟩
    · have := h.base.blk q (List.mem_cons_of_mem _ hq)
      exact ⟨this.1.step ss (by simpa using h.ne q hq), this.2⟩
  · rw [hi]
    exact h.i.step ss (fun g hg => by simpa using (h.di g hg).2.2.1)
theorem Df.put0 (h : Df w0 w K p br st x none none none 0 0 0) (ss : Step [br] [br] w w') (hb : Blk w' br 44 (cmc x' (.slice none x'.ifs.length 0) (.slice none x'.thens.length 0) (.slice none x'.elses.length 0)).toArray)
    (hi : x'.ifs = x.ifs) (ht : x'.thens = []) (he : x'.elses = []) : Df w0 w' K p br st x' none none none 0 0 0 :=
  h.putL ss hb hi (by rw [ht]; exact (Row.none w' 7).rd) (by rw [he]; exact (Row.none w' 7).rd) (by simp [blks]) (by simp [blks])
/-- The compares have grown by one. -/
theorem Df.mid {a9 : Option Addr} (h : Df w0 w K p br st x a1 none none c1 0 0) (st9 : Step (blks a1) (blks a9) w w') : Blk w' br 44 (cmc x (.slice a1 x.ifs.length c1) (.slice none x.thens.length 0) (.slice none x.elses.length 0)).toArray ∧ ∀ q ∈ K, Blk w' q.1 q.2.1 q.2.2 :=
  ⟨h.cmd.step st9 (fun hg => (h.di br hg).2.2.1 rfl), fun q hq => (h.base.blk q (List.mem_cons_of_mem _ hq)).1.step st9 (fun hg => (h.di _ hg).2.2.2 q hq rfl)⟩
theorem Df.grow {a9 : Option Addr} {c9 : Nat} {c : Cp} (h : Df w0 w K p br st x a1 none none c1 0 0) (st9 : Step (blks a1) (blks a9) w w') (hr9 : Row w' 4 a9 (x.ifs.length + 1) c9 (cpcs x.ifs ++ cpc c)) (hx : x' = { x with ifs := x.ifs ++ [c] }) :
    Df w0 (w'.setCell ⟨br, 15, none⟩ (.slice a9 (x.ifs.length + 1) c9)) K p br st x' a9 none none c9 0 0 := by
  subst hx
  have m := h.mid st9
  have fb := (h.base.blk _ (List.mem_cons_self ..)).2
  have np : p ∉ blks a1 := fun hg => (h.di p hg).2.1 rfl
  have nb : br ∉ blks a1 := fun hg => (h.di br hg).2.2.1 rfl
  have mp := st9.notin (Blk.lt h.base.rdr) np
  have mb := st9.notin h.cmd.lt nb
  have ss : Step [br] [br] w' (w'.setCell ⟨br, 15, none⟩ (.slice a9 (x.ifs.length + 1) c9)) := (Step.refl _ w').setCell (.inl (by simp)) _
  have so : Step [] [] w0 w' := h.base.out.out1' st9 (fun g hg => (h.di g hg).1)
  refine ⟨⟨Ref.step (Ref.step h.base.rdr st9 np) ss (by simpa using fb.1.symm), fun q hq => ?_, so.own ss fb.2, h.base.fp, h.base.len⟩, h.ne, ?_, ?_, ?_, fun g hg => ⟨?_, fun e => mp (e ▸ hg), fun e => mb (e ▸ hg), fun q hq e => ?_⟩, by simp [blks], by simp [blks]⟩
  · rcases List.mem_cons.1 hq with rfl | hq
    · refine ⟨?_, fb⟩
      have := m.1.set 15 (.slice a9 (x.ifs.length + 1) c9)
      simpa [cmc] using this
    · exact ⟨(m.2 q hq).step ss (by simpa using h.ne q hq), (h.base.blk q (List.mem_cons_of_mem _ hq)).2⟩
  · have := hr9.step ss (fun g hg e => by simp at e; subst e; exact mb hg)
    simpa [cpcs] using this
  · exact (h.t.step st9 (by simp [blks])).step ss (by simp [blks])
  · exact (h.e.step st9 (by simp [blks])).step ss (by simp [blks])
  · rcases st9.fresh g hg with hm | hm
    · exact (h.di g hm).1
    · exact Nat.le_trans h.base.out.size hm
  · have q1 := (h.base.blk q (List.mem_cons_of_mem _ hq)).1
    exact st9.notin q1.lt (fun hg => (h.di _ hg).2.2.2 q hq rfl) (e ▸ hg)
/-! ### calls -/
theorem df0_upto (h : Df0 w0 w K p st) (m : Int) : Calls Try.prog 36 #[.pointer (some ⟨p, 0, none⟩), .int .i64 m] w fun e w' => e = .returned (.int .i64 (upto st m).1) ∧ Df0 w0 w' K p (upto st m).2 := by
  refine (refNum_any p st m w h.rdr (by have := h.len; omega)).mono ?_
  rintro e w' ⟨he, g, k⟩
  exact ⟨he, h.read g k (upto_len st _)⟩
theorem df_upto (h : Df w0 w K p br st x a1 a2 a3 c1 c2 c3) (m : Int) : Calls Try.prog 36 #[.pointer (some ⟨p, 0, none⟩), .int .i64 m] w fun e w' => e = .returned (.int .i64 (upto st m).1) ∧ Df w0 w' K p br (upto st m).2 x a1 a2 a3 c1 c2 c3 := by
  refine (refNum_any p st m w h.base.rdr (by have := h.base.len; omega)).mono ?_
  rintro e w' ⟨he, g, k⟩
  exact ⟨he, h.read g k (upto_len st _)⟩
theorem df_flag (h : Df w0 w K p br st x a1 a2 a3 c1 c2 c3) : Calls Try.prog 42 #[.pointer (some ⟨p, 0, none⟩)] w fun e w' => e = .returned (.bool (rflag st).1) ∧ Df w0 w' K p br (rflag st).2 x a1 a2 a3 c1 c2 c3 := by
  refine (refFlag_any p st w h.base.rdr (by have := h.base.len; omega)).mono ?_
  rintro e w' ⟨he, g, k⟩
  exact ⟨he, h.read g k (upto_len st _)⟩
end
end Go.Proofs.Ytjfaplmojpldhaa
