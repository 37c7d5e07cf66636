/-
 What stands while an answer is read: the reader, blocks, outs, pairs. Condition: at most 2^40 bytes.
-/
import Derived.Test.YtjfaplmojpldhaaZGD
import Derived.Test.YtjfaplmojpldhaaZReqY
namespace Go.Proofs.Ytjfaplmojpldhaa
open Go.RowKit
set_option linter.unusedSimpArgs false
set_option linter.unusedVariables false
set_option maxRecDepth 100000

theorem Try.info_pair : (Try.prog.info? 115).map (fun i => (i.zero, i.size, i.bytes)) = some (some (.agg #[.string ⟨#[]⟩, .string ⟨#[]⟩, .int .i64 0, .int .i64 0]), 4, 48) := by kernel_rfl
theorem Try.info_out : (Try.prog.info? 113).map (fun i => (i.zero, i.size, i.bytes)) = some (some (.agg #[.slice none 0 0, .bool false, .int .i64 0]), 3, 40) := by kernel_rfl
theorem prc_one (e : Pr) : ∀ u ∈ prc e, u.oneCell' = true := by
 intro u hu
 simp [prc] at hu
 rcases hu with rfl | rfl | rfl | rfl <;> rfl
/-- The reader (type `RT`) in block `p`, the blocks of `K`, the outs so far, the pairs so far. -/
structure Qx (RT : TypeId) (w0 w : World) (p : Nat) (st : RS) (K : List (Nat × TypeId × Array Value)) (m : List Om) (oa : Option Addr) (oc : Nat) (l : List Pr) (pa : Option Addr) (pc : Nat) : Prop where
 rdr : Blk w p RT #[Str st.s, .bool st.bad]
 out : Step [] [] w0 w
 fp : w0.heap.size ≤ p
 blk : ∀ q ∈ K, Blk w q.1 q.2.1 q.2.2 ∧ q.1 ≠ p ∧ w0.heap.size ≤ q.1
 nd : (K.map (·.1)).Nodup
 orow : Row w 3 oa m.length oc (omcs m)
 oo : ∀ g ∈ blks oa, w0.heap.size ≤ g ∧ g ≠ p ∧ ∀ q ∈ K, g ≠ q.1
 mr : ∀ x ∈ m, Rd w 4 x.a x.o.pairs.length (prcs x.o.pairs)
 mo : ∀ x ∈ m, ∀ g ∈ blks x.a, g < w.heap.size ∧ g ≠ p ∧ g ∉ blks oa ∧ g ∉ blks pa ∧ ∀ q ∈ K, g ≠ q.1
 prow : Row w 4 pa l.length pc (prcs l)
 po : ∀ g ∈ blks pa, w0.heap.size ≤ g ∧ g ≠ p ∧ g ∉ blks oa ∧ ∀ q ∈ K, g ≠ q.1
 len : st.s.length ≤ 1099511627776
 mf : ∀ x ∈ m, ∀ g ∈ blks x.a, w0.heap.size ≤ g
section
variable {RT : TypeId} {w0 w w' : World} {p : Nat} {st st' : RS} {K K1 K2 : List (Nat × TypeId × Array Value)} {m : List Om} {oa : Option Addr} {oc : Nat} {l : List Pr} {pa : Option Addr} {pc : Nat} {b : Nat} {T : TypeId} {cs cs' : Array Value}
theorem Qx.read (h : Qx RT w0 w p st K m oa oc l pa pc) (g : Blk w' p RT #[Str st'.s, .bool st'.bad]) (k : Step [p] [p] w w') (hl : st'.s.length ≤ st.s.length) : Qx RT w0 w' p st' K m oa oc l pa pc :=
 ⟨g, h.out.own k h.fp, h.fp, fun q hq => ⟨(h.blk q hq).1.step k (by simpa using (h.blk q hq).2.1), (h.blk q hq).2⟩, h.nd, h.orow.step k (fun g hg => by simpa using (h.oo g hg).2.1), h.oo,
  fun x hx => (h.mr x hx).step k (fun g hg => by simpa using (h.mo x hx g hg).2.1), fun x hx g hg => ⟨Nat.lt_of_lt_of_le (h.mo x hx g hg).1 k.size, (h.mo x hx g hg).2⟩, h.prow.step k (fun g hg => by simpa using (h.po g hg).2.1), h.po, by have := h.len; omega, h.mf⟩
theorem Qx.quiet (h : Qx RT w0 w p st K m oa oc l pa pc) (k : Step [] [] w w') : Qx RT w0 w' p st K m oa oc l pa pc :=
 h.read (h.rdr.step k (by simp)) (k.keep [p]) (Nat.le_refl _)
theorem Qx.push (h : Qx RT w0 w p st K m oa oc l pa pc) (T : TypeId) (cs : Array Value) : Qx RT w0 (w.alloc (.cells cs T)) p st ((w.heap.size, T, cs) :: K) m oa oc l pa pc := by
 have h' := h.quiet ((Step.refl [] w).alloc (.cells cs T))
 refine ⟨h'.rdr, h'.out, h'.fp, fun q hq => ?_, ?_, h'.orow, fun g hg => ⟨(h.oo g hg).1, (h.oo g hg).2.1, fun q hq => ?_⟩, h'.mr, fun x hx g hg => ⟨(h'.mo x hx g hg).1, (h.mo x hx g hg).2.1, (h.mo x hx g hg).2.2.1, (h.mo x hx g hg).2.2.2.1, fun q hq => ?_⟩, h'.prow, fun g hg => ⟨(h.po g hg).1, (h.po g hg).2.1, (h.po g hg).2.2.1, fun q hq => ?_⟩, h.len, h.mf⟩
 ·rcases List.mem_cons.1 hq with rfl | hq
  ·exact ⟨Blk.new w T cs, by have := h.rdr.lt; simp only; omega, h.out.size⟩
  ·exact h'.blk q hq
 ·rw [List.map_cons, List.nodup_cons]
  refine ⟨fun hm => ?_, h.nd⟩
  obtain ⟨q, hq, e⟩ := List.mem_map.1 hm
  have := (h.blk q hq).1.lt
  simp only at e
  omega
 ·rcases List.mem_cons.1 hq with rfl | hq
  ·have := h.orow.lt g hg; simp only; omega
  ·exact (h.oo g hg).2.2 q hq
 ·rcases List.mem_cons.1 hq with rfl | hq
  ·have := (h.mo x hx g hg).1; simp only; omega
  ·exact (h.mo x hx g hg).2.2.2.2 q hq
 ·rcases List.mem_cons.1 hq with rfl | hq
  ·have := h.prow.lt g hg; simp only; omega
  ·exact (h.po g hg).2.2.2 q hq
theorem Qx.drop {q0 : Nat × TypeId × Array Value} (h : Qx RT w0 w p st (q0 :: K) m oa oc l pa pc) : Qx RT w0 w p st K m oa oc l pa pc :=
 ⟨h.rdr, h.out, h.fp, fun q hq => h.blk q (List.mem_cons_of_mem _ hq), (List.nodup_cons.1 h.nd).2, h.orow, fun g hg => ⟨(h.oo g hg).1, (h.oo g hg).2.1, fun q hq => (h.oo g hg).2.2 q (List.mem_cons_of_mem _ hq)⟩, h.mr,
  fun x hx g hg => ⟨(h.mo x hx g hg).1, (h.mo x hx g hg).2.1, (h.mo x hx g hg).2.2.1, (h.mo x hx g hg).2.2.2.1, fun q hq => (h.mo x hx g hg).2.2.2.2 q (List.mem_cons_of_mem _ hq)⟩, h.prow, fun g hg => ⟨(h.po g hg).1, (h.po g hg).2.1, (h.po g hg).2.2.1, fun q hq => (h.po g hg).2.2.2 q (List.mem_cons_of_mem _ hq)⟩, h.len, h.mf⟩
theorem Qx.at (h : Qx RT w0 w p st K m oa oc l pa pc) (hq : (b, T, cs) ∈ K) : Blk w b T cs := (h.blk _ hq).1
theorem Qx.put (h : Qx RT w0 w p st (K1 ++ (b, T, cs) :: K2) m oa oc l pa pc) (ss : Step [b] [b] w w') (hb : Blk w' b T cs') : Qx RT w0 w' p st (K1 ++ (b, T, cs') :: K2) m oa oc l pa pc := by
 have fb := (h.blk (b, T, cs) (by simp)).2
 have hn := h.nd
 rw [List.map_append, List.map_cons] at hn
 have n1 : ∀ q ∈ K1, q.1 ≠ b := fun q hq e => by
  have := List.nodup_append.1 hn
  exact this.2.2 q.1 (List.mem_map.2 ⟨q, hq, rfl⟩) b (by simp) e
 have n2 : ∀ q ∈ K2, q.1 ≠ b := fun q hq e => by
  have := (List.nodup_append.1 hn).2.1
  exact (List.nodup_cons.1 this).1 (List.mem_map.2 ⟨q, hq, e⟩)
 have cv : ∀ {P : Nat → Prop}, (∀ q ∈ K1 ++ (b, T, cs) :: K2, P q.1) → ∀ q ∈ K1 ++ (b, T, cs') :: K2, P q.1 := by
  intro P hP q hq
  simp only [List.mem_append, List.mem_cons] at hq
  rcases hq with hq | rfl | hq
  ·exact hP q (by simp [hq])
  ·exact hP (b, T, cs) (by simp)
  ·exact hP q (by simp [hq])
 refine ⟨h.rdr.step ss (by simpa using fb.1.symm), h.out.own ss fb.2, h.fp, fun q hq => ?_, by rw [List.map_append, List.map_cons]; exact hn, h.orow.step ss (fun g hg => by simpa using (h.oo g hg).2.2 (b, T, cs) (by simp)), fun g hg => ⟨(h.oo g hg).1, (h.oo g hg).2.1, cv (P := fun n => g ≠ n) (h.oo g hg).2.2⟩,
  fun x hx => (h.mr x hx).step ss (fun g hg => by simpa using (h.mo x hx g hg).2.2.2.2 (b, T, cs) (by simp)), fun x hx g hg => ⟨Nat.lt_of_lt_of_le (h.mo x hx g hg).1 ss.size, (h.mo x hx g hg).2.1, (h.mo x hx g hg).2.2.1, (h.mo x hx g hg).2.2.2.1, cv (P := fun n => g ≠ n) (h.mo x hx g hg).2.2.2.2⟩,
  h.prow.step ss (fun g hg => by simpa using (h.po g hg).2.2.2 (b, T, cs) (by simp)), fun g hg => ⟨(h.po g hg).1, (h.po g hg).2.1, (h.po g hg).2.2.1, cv (P := fun n => g ≠ n) (h.po g hg).2.2.2⟩, h.len, h.mf⟩
 simp only [List.mem_append, List.mem_cons] at hq
 rcases hq with hq | rfl | hq
 ·have := h.blk q (by simp [hq])
  exact ⟨this.1.step ss (by simpa using n1 q hq), this.2⟩
 ·exact ⟨hb, fb⟩
 ·have := h.blk q (by simp [hq])
  exact ⟨this.1.step ss (by simpa using n2 q hq), this.2⟩
/-- The pairs have grown by one. -/
theorem Qx.growP {a9 : Option Addr} {c9 : Nat} {e : Pr} (h : Qx RT w0 w p st K m oa oc l pa pc) (k : Step (blks pa) (blks a9) w w') (hr : Row w' 4 a9 (l.length + 1) c9 (prcs l ++ prc e)) : Qx RT w0 w' p st K m oa oc (l ++ [e]) a9 c9 := by
 have fr : ∀ g ∈ blks a9, g ∈ blks pa ∨ w.heap.size ≤ g := fun g hg => k.fresh g hg
 refine ⟨h.rdr.step k (fun hg => (h.po p hg).2.1 rfl), h.out.out1' k (fun g hg => (h.po g hg).1), h.fp, fun q hq => ⟨(h.blk q hq).1.step k (fun hg => (h.po _ hg).2.2.2 q hq rfl), (h.blk q hq).2⟩, h.nd, h.orow.step k (fun g hg hp => (h.po g hp).2.2.1 hg), h.oo,
  fun x hx => (h.mr x hx).step k (fun g hg hp => (h.mo x hx g hg).2.2.2.1 hp), fun x hx g hg => ⟨Nat.lt_of_lt_of_le (h.mo x hx g hg).1 k.size, (h.mo x hx g hg).2.1, (h.mo x hx g hg).2.2.1, fun h9 => ?_, (h.mo x hx g hg).2.2.2.2⟩, by simpa [prcs] using hr, fun g hg => ?_, h.len, h.mf⟩
 ·exact k.notin (h.mo x hx g hg).1 (h.mo x hx g hg).2.2.2.1 h9
 ·rcases fr g hg with hm | hm
  ·exact h.po g hm
  ·exact ⟨Nat.le_trans h.out.size hm, fun e => by have := h.rdr.lt; omega, fun ho => by have := h.orow.lt g ho; omega, fun q hq e => by have := (h.blk q hq).1.lt; omega⟩
/-- The outs have grown by one, with the pairs. -/
theorem Qx.growO {a9 : Option Addr} {c9 : Nat} {more : Bool} {count : Int} (h : Qx RT w0 w p st K m oa oc l pa pc) (k : Step (blks oa) (blks a9) w w') (hr : Row w' 3 a9 (m.length + 1) c9 (omcs m ++ omc ⟨⟨l, more, count⟩, pa, pc⟩)) : Qx RT w0 w' p st K (m ++ [⟨⟨l, more, count⟩, pa, pc⟩]) a9 c9 [] none 0 := by
 have fr : ∀ g ∈ blks a9, g ∈ blks oa ∨ w.heap.size ≤ g := fun g hg => k.fresh g hg
 refine ⟨h.rdr.step k (fun hg => (h.oo p hg).2.1 rfl), h.out.out1' k (fun g hg => (h.oo g hg).1), h.fp, fun q hq => ⟨(h.blk q hq).1.step k (fun hg => (h.oo _ hg).2.2 q hq rfl), (h.blk q hq).2⟩, h.nd, by simpa [omcs] using hr, fun g hg => ?_,
  fun x hx => ?_, fun x hx g hg => ?_, Row.none _ 4, by simp [blks], h.len, fun x hx g hg => ?_⟩
 ·rcases fr g hg with hm | hm
  ·exact h.oo g hm
  ·exact ⟨Nat.le_trans h.out.size hm, fun e => by have := h.rdr.lt; omega, fun q hq e => by have := (h.blk q hq).1.lt; omega⟩
 ·rcases List.mem_append.1 hx with hx | hx
  ·exact (h.mr x hx).step k (fun g hg ho => (h.mo x hx g hg).2.2.1 ho)
  ·rw [List.mem_singleton.1 hx]
   exact h.prow.rd.step k (fun g hg ho => (h.po g hg).2.2.1 ho)
 ·rcases List.mem_append.1 hx with hx | hx
  ·exact ⟨Nat.lt_of_lt_of_le (h.mo x hx g hg).1 k.size, (h.mo x hx g hg).2.1, k.notin (h.mo x hx g hg).1 (h.mo x hx g hg).2.2.1, by simp [blks], (h.mo x hx g hg).2.2.2.2⟩
  ·rw [List.mem_singleton.1 hx] at hg
   have l1 := h.prow.lt g hg
   exact ⟨Nat.lt_of_lt_of_le l1 k.size, (h.po g hg).2.1, k.notin l1 (h.po g hg).2.2.1, by simp [blks], (h.po g hg).2.2.2⟩
 ·rcases List.mem_append.1 hx with hx | hx
  ·exact h.mf x hx g hg
  ·rw [List.mem_singleton.1 hx] at hg
   exact (h.po g hg).1
/-- All of it is new. -/
structure FreshO (w : World) (a : Option Addr) (m : List Om) : Prop where
 o : ∀ g ∈ blks a, w.heap.size ≤ g
 p : ∀ x ∈ m, ∀ g ∈ blks x.a, w.heap.size ≤ g
theorem Qx.freshO (h : Qx RT w0 w p st K m oa oc l pa pc) : FreshO w0 oa m := ⟨fun g hg => (h.oo g hg).1, h.mf⟩
theorem Qx.rdo (h : Qx RT w0 w p st K m oa oc l pa pc) : RdO w oa m := ⟨h.orow.rd, h.mr⟩
theorem Qx.own (h : Qx RT w0 w p st K m oa oc l pa pc) (hq : (b, T, cs) ∈ K) (ss : Step [b] [b] w w') : RdO w' oa m :=
 ⟨h.orow.rd.step ss (fun g hg => by simpa using (h.oo g hg).2.2 _ hq), fun x hx => (h.mr x hx).step ss (fun g hg => by simpa using (h.mo x hx g hg).2.2.2.2 _ hq)⟩
end
/-! ### each turn eats a byte, or the reader is bad -/
theorem prR_less (m : Int) (st : RS) : (prR m st).2 = rfail ∨ (prR m st).2.s.length < st.s.length := by
 have tl := fun s => (rtext_len s m).2
 have nl := fun s : RS => upto_len s 4611686018427387903
 unfold prR rnum
 simp only
 rcases rtext_less st m with h | h
 ·left; simp only [h, rtext_fail, upto_fail]
 ·right
  have q1 := tl (rtext st m).2
  have q2 := nl (rtext (rtext st m).2 m).2
  have q3 := nl (upto (rtext (rtext st m).2 m).2 4611686018427387903).2
  omega
theorem prsR_slen (stop : RS → Bool) (m : Int) (n : Nat) (l : List Pr) (s : RS) : (prsR stop m n l s).2.s.length ≤ s.s.length := by
 induction n generalizing l s with
 | zero => simp [prsR]
 | succ n ih =>
  unfold prsR
  split
  ·exact Nat.le_refl _
  ·refine Nat.le_trans (ih _ _) ?_
   rcases prR_less m s with h | h
   ·rw [h]; simp [rfail]
   ·omega
theorem prsR_fail (stop : RS → Bool) (m : Int) (hs : stop rfail = true) (n : Nat) (l : List Pr) : (prsR stop m n l rfail).2 = rfail ∧ (prsR stop m n l rfail).1 = l := by
 cases n <;> simp [prsR, hs]
theorem rflag_fail : (rflag rfail).2 = rfail := upto_fail 1
theorem rnum_fail : (rnum rfail).2 = rfail := upto_fail _
theorem otR_less (stop : RS → Bool) (m : Int) (hs : stop rfail = true) (st : RS) : (otR stop m st).2 = rfail ∨ (otR stop m st).2.s.length < st.s.length := by
 have nl := fun s : RS => upto_len s 4611686018427387903
 have fl := fun s : RS => upto_len s 1
 rcases upto_less st 4611686018427387903 with h | h
 ·left
  unfold otR rdPrs
  simp only [rnum, h]
  rw [(prsR_fail stop m hs _ _).1]
  rw [rflag_fail]
  exact rnum_fail
 ·right
  have q1 := prsR_slen stop m (rnum st).1.toNat [] (rnum st).2
  have q2 := fl (rdPrs stop m st).2
  have q3 := nl (rflag (rdPrs stop m st).2).2
  have e1 : (rnum st).2.s.length < st.s.length := h
  have e2 : (rflag (rdPrs stop m st).2).2.s.length ≤ (rdPrs stop m st).2.s.length := q2
  have e3 : (rdPrs stop m st).2.s.length ≤ (rnum st).2.s.length := q1
  unfold otR
  simp only
  have e4 : (rnum (rflag (rdPrs stop m st).2).2).2.s.length ≤ (rflag (rdPrs stop m st).2).2.s.length := q3
  omega
theorem stopP_yes {st : RS} (h : st.s.length = 0) : stopP st = true := decide_eq_true h
theorem stopP_no {st : RS} (h : ¬ st.s.length = 0) : ¬ stopP st = true := fun g => h (of_decide_eq_true g)
/-! ### how much is read -/
def wtR (st : RS) : Nat := st.s.length + (if st.bad = true then 0 else 1)
theorem wtR_fail : wtR rfail = 0 := rfl
theorem wtR_upto (st : RS) (m : Int) : wtR (upto st m).2 ≤ wtR st ∧ (st.bad = false → wtR (upto st m).2 + 1 ≤ wtR st) := by
 rcases upto_less st m with h | h
 ·rw [h, wtR_fail]
  refine ⟨Nat.zero_le _, fun hb => ?_⟩
  unfold wtR
  rw [hb]
  simp
 ·by_cases hb : st.bad = true
  ·have : (upto st m).2 = rfail := by rw [upto_bad m hb]
   rw [this] at h ⊢
   rw [wtR_fail]
   refine ⟨Nat.zero_le _, fun h' => ?_⟩
   rw [h'] at hb
   cases hb
  ·simp only [Bool.not_eq_true] at hb
   have h1 : wtR (upto st m).2 ≤ (upto st m).2.s.length + 1 := by unfold wtR; split <;> omega
   have h2 : wtR st = st.s.length + 1 := by unfold wtR; rw [hb]; simp
   exact ⟨by omega, fun _ => by omega⟩
theorem wtR_text (st : RS) (m : Int) : wtR (rtext st m).2 ≤ wtR st ∧ (st.bad = false → wtR (rtext st m).2 + 1 ≤ wtR st) := by
 rcases rtext_less st m with h | h
 ·rw [h, wtR_fail]
  refine ⟨Nat.zero_le _, fun hb => ?_⟩
  unfold wtR
  rw [hb]
  simp
 ·by_cases hb : st.bad = true
  ·have : (rtext st m).2 = rfail := rtext_bad m hb
   rw [this] at h ⊢
   rw [wtR_fail]
   refine ⟨Nat.zero_le _, fun h' => ?_⟩
   rw [h'] at hb
   cases hb
  ·simp only [Bool.not_eq_true] at hb
   have h1 : wtR (rtext st m).2 ≤ (rtext st m).2.s.length + 1 := by unfold wtR; split <;> omega
   have h2 : wtR st = st.s.length + 1 := by unfold wtR; rw [hb]; simp
   exact ⟨by omega, fun _ => by omega⟩
theorem wtR_pr (st : RS) (m : Int) (hb : st.bad = false) : wtR (prR m st).2 + 1 ≤ wtR st := by
 have h1 := (wtR_text st m).2 hb
 have h2 := (wtR_text (rtext st m).2 m).1
 have h3 := (wtR_upto (rtext (rtext st m).2 m).2 4611686018427387903).1
 have h4 := (wtR_upto (rnum (rtext (rtext st m).2 m).2).2 4611686018427387903).1
 have e3 : wtR (rnum (rtext (rtext st m).2 m).2).2 ≤ wtR (rtext (rtext st m).2 m).2 := h3
 have e4 : wtR (prR m st).2 ≤ wtR (rnum (rtext (rtext st m).2 m).2).2 := h4
 omega
theorem wtR_prs (m : Int) (n : Nat) (l : List Pr) (st : RS) : (prsR stopR m n l st).1.length + wtR (prsR stopR m n l st).2 ≤ l.length + wtR st := by
 induction n generalizing l st with
 | zero => simp [prsR]
 | succ n ih =>
  unfold prsR
  split
  ·exact Nat.le_refl _
  ·rename_i hs
   have h1 := ih (l ++ [(prR m st).1]) (prR m st).2
   have h2 := wtR_pr st m (by simpa [stopR] using hs)
   rw [List.length_append, List.length_singleton] at h1
   omega
theorem wtR_ot (st : RS) (m : Int) (hb : st.bad = false) : (otR stopR m st).1.pairs.length + 1 + wtR (otR stopR m st).2 ≤ wtR st := by
 have h1 : wtR (rnum st).2 + 1 ≤ wtR st := (wtR_upto st _).2 hb
 have h2 := wtR_prs m (rnum st).1.toNat [] (rnum st).2
 have h3 : wtR (rflag (rdPrs stopR m st).2).2 ≤ wtR (rdPrs stopR m st).2 := (wtR_upto _ 1).1
 have h4 : wtR (rnum (rflag (rdPrs stopR m st).2).2).2 ≤ wtR (rflag (rdPrs stopR m st).2).2 := (wtR_upto _ _).1
 have e2 : (rdPrs stopR m st).1.length + wtR (rdPrs stopR m st).2 ≤ 0 + wtR (rnum st).2 := h2
 have e5 : (otR stopR m st).1.pairs = (rdPrs stopR m st).1 := rfl
 have e6 : (otR stopR m st).2 = (rnum (rflag (rdPrs stopR m st).2).2).2 := rfl
 rw [e5, e6]
 omega
def wtO (l : List Ot) : Nat := (l.map fun o => o.pairs.length + 1).sum
theorem wtO_app (l k : List Ot) : wtO (l ++ k) = wtO l + wtO k := by simp [wtO]
theorem wtR_ots (m : Int) (n : Nat) (l : List Ot) (st : RS) : wtO (otsR stopR m n l st).1 + wtR (otsR stopR m n l st).2 ≤ wtO l + wtR st := by
 induction n generalizing l st with
 | zero => simp [otsR]
 | succ n ih =>
  unfold otsR
  split
  ·exact Nat.le_refl _
  ·rename_i hs
   have h1 := ih (l ++ [(otR stopR m st).1]) (otR stopR m st).2
   have h2 := wtR_ot st m (by simpa [stopR] using hs)
   have h3 : wtO [(otR stopR m st).1] = (otR stopR m st).1.pairs.length + 1 := by simp [wtO]
   rw [wtO_app] at h1
   omega
theorem wtO_its (l : List Ot) : (l.flatMap otIts).length ≤ 4 * wtO l ∧ (l.flatMap otNums).length ≤ 4 * wtO l ∧ l.length ≤ wtO l ∧ ∀ o ∈ l, o.pairs.length ≤ wtO l := by
 have h4 : ∀ l : List Pr, (l.flatMap prIts).length = 4 * l.length := by
  intro l
  induction l with
  | nil => rfl
  | cons p l ih => rw [List.flatMap_cons, List.length_append, ih, List.length_cons]; simp only [prIts, List.length_cons, List.length_nil]; omega
 have h2 : ∀ l : List Pr, (l.flatMap prNums).length = 2 * l.length := by
  intro l
  induction l with
  | nil => rfl
  | cons p l ih => rw [List.flatMap_cons, List.length_append, ih, List.length_cons]; simp only [prNums, List.length_cons, List.length_nil]; omega
 induction l with
 | nil => simp [wtO]
 | cons o l ih =>
  have e : wtO (o :: l) = o.pairs.length + 1 + wtO l := by simp [wtO]
  rw [e]
  simp only [List.flatMap_cons, List.length_append, List.length_cons, otIts, otNums, h4, h2, List.length_nil]
  refine ⟨by omega, by omega, by omega, fun y hy => ?_⟩
  rcases List.mem_cons.1 hy with rfl | hy
  ·omega
  ·have := ih.2.2.2 y hy
   omega
theorem ups_small (s : RS) (m : Int) (hm : m ≤ 4611686018427387903) (h0 : 0 ≤ m) : (upto s m).1 < 9223372036854775808 := by have := uptoQ_most s m h0; omega
theorem prR_small (m : Int) (s : RS) (hs : s.s.length ≤ 2097152) : PrB (prR m s).1 := by
 have t1 := rtext_len s m
 have t2 := rtext_len (rtext s m).2 m
 have q1 := ups_small (rtext (rtext s m).2 m).2 4611686018427387903 (by omega) (by omega)
 have q2 := ups_small (rnum (rtext (rtext s m).2 m).2).2 4611686018427387903 (by omega) (by omega)
 exact ⟨q1, q2, by unfold prR; simp only; omega, by unfold prR; simp only; omega⟩
theorem prsR_small (stop : RS → Bool) (m : Int) (n : Nat) (l : List Pr) (s : RS) (hs : s.s.length ≤ 2097152) (hl : ∀ d ∈ l, PrB d) : ∀ d ∈ (prsR stop m n l s).1, PrB d := by
 induction n generalizing l s with
 | zero => simpa [prsR] using hl
 | succ n ih =>
  unfold prsR
  split
  ·exact hl
  ·refine ih _ _ ?_ ?_
   ·rcases prR_less m s with h | h
    ·rw [h]; simp [rfail]
    ·omega
   ·intro d hd
    rcases List.mem_append.1 hd with hd | hd
    ·exact hl d hd
    ·rw [List.mem_singleton.1 hd]; exact prR_small m s hs
theorem otR_slen (stop : RS → Bool) (m : Int) (st : RS) : (otR stop m st).2.s.length ≤ st.s.length := by
 have nl := fun s : RS => upto_len s 4611686018427387903
 have q0 : (rnum st).2.s.length ≤ st.s.length := nl st
 have q1 : (rdPrs stop m st).2.s.length ≤ (rnum st).2.s.length := prsR_slen stop m (rnum st).1.toNat [] (rnum st).2
 have q2 : (rflag (rdPrs stop m st).2).2.s.length ≤ (rdPrs stop m st).2.s.length := upto_len _ 1
 have q3 : (rnum (rflag (rdPrs stop m st).2).2).2.s.length ≤ (rflag (rdPrs stop m st).2).2.s.length := nl _
 unfold otR
 simp only
 omega
theorem otR_small (stop : RS → Bool) (m : Int) (s : RS) (hs : s.s.length ≤ 2097152) : OtB (otR stop m s).1 := by
 have q0 : (rnum s).2.s.length ≤ s.s.length := upto_len s _
 exact ⟨ups_small _ 4611686018427387903 (by omega) (by omega), prsR_small stop m _ [] _ (by omega) (by simp)⟩
theorem otsR_small (stop : RS → Bool) (m : Int) (n : Nat) (l : List Ot) (s : RS) (hs : s.s.length ≤ 2097152) (hl : ∀ d ∈ l, OtB d) : ∀ d ∈ (otsR stop m n l s).1, OtB d := by
 induction n generalizing l s with
 | zero => simpa [otsR] using hl
 | succ n ih =>
  unfold otsR
  split
  ·exact hl
  ·refine ih _ _ (Nat.le_trans (otR_slen stop m s) hs) ?_
   intro d hd
   rcases List.mem_append.1 hd with hd | hd
   ·exact hl d hd
   ·rw [List.mem_singleton.1 hd]; exact otR_small stop m s hs
theorem otsR_slen (stop : RS → Bool) (m : Int) (n : Nat) (l : List Ot) (s : RS) : (otsR stop m n l s).2.s.length ≤ s.s.length := by
 induction n generalizing l s with
 | zero => simp [otsR]
 | succ n ih =>
  unfold otsR
  split
  ·exact Nat.le_refl _
  ·exact Nat.le_trans (ih _ _) (otR_slen stop m s)
/-- Sizes of an answer that is read or asked for. -/
structure SmA (x : An) : Prop where
 bd : AnB x
 ln : LenA x
 nn : (numsA x).length ≤ 1099511627776
 it : (ansIts x).length ≤ 16777216
theorem smA_of {x : An} (h : AnB x) (hw : wtO x.outs ≤ 2097152) : SmA x := by
 obtain ⟨h1, h2, h3, h4⟩ := wtO_its x.outs
 refine ⟨h, ⟨by omega, fun o ho => by have := h4 o ho; omega⟩, ?_, ?_⟩
 ·simp only [numsA, List.length_cons]; omega
 ·simp only [ansIts, otsIts, List.length_cons, List.length_append, List.length_nil]; omega
theorem readA_small (m : Int) (s : List UInt8) (hs : s.length ≤ 2097152) : SmA (readA stopR m ⟨s, false⟩).1 := by
 have nl := fun s : RS => upto_len s 4611686018427387903
 obtain ⟨s1, h1⟩ : ∃ q, q = (rnum ⟨s, false⟩).2 := ⟨_, rfl⟩
 have l1 : s1.s.length ≤ 2097152 := by rw [h1]; exact Nat.le_trans (nl _) hs
 obtain ⟨s2, h2⟩ : ∃ q, q = (rnum s1).2 := ⟨_, rfl⟩
 have l2 : s2.s.length ≤ 2097152 := by rw [h2]; exact Nat.le_trans (nl _) l1
 obtain ⟨s3, h3⟩ : ∃ q, q = (upto s2 255).2 := ⟨_, rfl⟩
 have l3 : s3.s.length ≤ 2097152 := by rw [h3]; exact Nat.le_trans (upto_len _ _) l2
 obtain ⟨s4, h4⟩ : ∃ q, q = (rnum s3).2 := ⟨_, rfl⟩
 have l4 : s4.s.length ≤ 2097152 := by rw [h4]; exact Nat.le_trans (nl _) l3
 obtain ⟨s5, h5⟩ : ∃ q, q = (rflag s4).2 := ⟨_, rfl⟩
 have l5 : s5.s.length ≤ 2097152 := by rw [h5]; exact Nat.le_trans (upto_len _ _) l4
 have e : readA stopR m ⟨s, false⟩ = tailA stopR m (rnum ⟨s, false⟩).1 (rnum s1).1 (upto s2 255).1 (rnum s3).1 (rflag s4).1 s5 := by rw [h5, h4, h3, h2, h1]; rfl
 rw [e]
 have w5 : (rnum s5).2.s.length ≤ 2097152 := Nat.le_trans (nl _) l5
 have hw : wtO (rdOts stopR m s5).1 + wtR (rdOts stopR m s5).2 ≤ wtO [] + wtR (rnum s5).2 := wtR_ots m _ [] _
 have hw2 : wtR (rnum s5).2 ≤ 2097152 := by
  have q1 : wtR s1 + 1 ≤ wtR (⟨s, false⟩ : RS) := by rw [h1]; exact (wtR_upto _ _).2 rfl
  have q2 : wtR s2 ≤ wtR s1 := by rw [h2]; exact (wtR_upto _ _).1
  have q3 : wtR s3 ≤ wtR s2 := by rw [h3]; exact (wtR_upto _ _).1
  have q4 : wtR s4 ≤ wtR s3 := by rw [h4]; exact (wtR_upto _ _).1
  have q5 : wtR s5 ≤ wtR s4 := by rw [h5]; exact (wtR_upto _ _).1
  have q6 : wtR (rnum s5).2 ≤ wtR s5 := (wtR_upto _ _).1
  have q7 : wtR (⟨s, false⟩ : RS) = s.length + 1 := rfl
  omega
 have hw3 : wtO [] = 0 := rfl
 have lo : (rdOts stopR m s5).2.s.length ≤ 2097152 := Nat.le_trans (otsR_slen stopR m _ [] _) w5
 have lt := (rtext_len (rdOts stopR m s5).2 m).1
 have up := fun s : RS => ups_small s 4611686018427387903 (by omega) (by omega)
 refine smA_of ⟨up _, up _, ups_small _ 255 (by omega) (by omega), up _, ?_, ?_⟩ ?_
 ·have : (tailA stopR m (rnum ⟨s, false⟩).1 (rnum s1).1 (upto s2 255).1 (rnum s3).1 (rflag s4).1 s5).1.token = (rtext (rdOts stopR m s5).2 m).1 := rfl
  rw [this]
  omega
 ·exact otsR_small stopR m _ [] _ w5 (by simp)
 ·have : (tailA stopR m (rnum ⟨s, false⟩).1 (rnum s1).1 (upto s2 255).1 (rnum s3).1 (rflag s4).1 s5).1.outs = (rdOts stopR m s5).1 := rfl
  rw [this]
  omega
end Go.Proofs.Ytjfaplmojpldhaa
