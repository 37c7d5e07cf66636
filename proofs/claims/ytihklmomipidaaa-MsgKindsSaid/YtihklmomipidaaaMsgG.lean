/-
  What Decode calls, with what stands besides: the reader's pointer, the flat form that is filled. Condition: texts of at most 2^40 bytes.
-/
import Derived.Test.YtihklmomipidaaaMsgD
import Derived.Test.YtihklmomipidaaaPackR2
namespace Go.Proofs.Ytihklmomipidaaa
open Go.RowKit
set_option linter.unusedSimpArgs false
set_option linter.unusedVariables false
set_option maxRecDepth 100000

/-- The closure 'num'. -/
theorem dnum_any (pp p : Nat) (st : RS) (w : World) (h1 : Blk w pp 74 #[.pointer (some ⟨p, 0, none⟩)]) (h2 : Rdr w p st) (hs : st.s.length ≤ 9223372036854775807) :
    Calls Try.prog 32 #[.pointer (some ⟨pp, 0, none⟩)] w (RdPost p (up st).2 (.int .i64 (up st).1) w) := by
  have c := h1.cell 0
  have l := h1.lt
  simp only [List.getElem?_toArray, List.getElem?_cons_zero] at c
  have H := Lib.hid (And.intro h2 hs)
  clear h1 h2 hs
  go_enter Try.func32, Try.ntmps32
  go_wp2_with fail
  refine (upto_any p st 1099511627776 w H.out.1 H.out.2).mono ?_
  rintro e w1 ⟨rfl, g, k⟩
  have HG : Hid (Rdr w1 p (up st).2 ∧ Step [p] [p] w w1) := ⟨g, k⟩
  clear g k
  go_wp2_with fail
  exact bodyPost_ret (results_tmp rfl _ _ _) rfl ⟨rfl, HG.out.1, HG.out.2⟩

/-- Ahead of the flat form: the reader and its pointer. -/
def Dc0 (w0 w : World) (pp p : Nat) (st : RS) : Prop := Blk w pp 74 #[.pointer (some ⟨p, 0, none⟩)] ∧ Rdr w p st ∧ pp ≠ p ∧ Step [] [p] w0 w ∧ st.s.length ≤ 1099511627776
theorem dc0_num {w0 w : World} {pp p : Nat} {st : RS} (h : Dc0 w0 w pp p st) : Calls Try.prog 32 #[.pointer (some ⟨pp, 0, none⟩)] w fun e w' => e = .returned (.int .i64 (up st).1) ∧ Dc0 w0 w' pp p (up st).2 := by
  obtain ⟨h1, h2, h3, h4, h5⟩ := h
  refine (dnum_any pp p st w h1 h2 (by omega)).mono ?_
  rintro e w' ⟨he, g, k⟩
  exact ⟨he, h1.step k (by simpa using h3), g, h3, h4.trans k, Nat.le_trans (upto_len st _) h5⟩
/-- With the flat form in block `br`, its entries an own slice. -/
def Dc (w0 w : World) (pp p br : Nat) (st : RS) (r : Rw) (a : Option Addr) (cap : Nat) : Prop :=
  Blk w pp 74 #[.pointer (some ⟨p, 0, none⟩)] ∧ Rdr w p st ∧ pp ≠ p ∧ Step [] (p :: br :: blks a) w0 w ∧ st.s.length ≤ 1099511627776 ∧
  Blk w br 24 (rwc r (.slice a r.es.length cap)).toArray ∧ Row w 3 a r.es.length cap (entcs r.es) ∧ br ≠ p ∧ br ≠ pp ∧ (∀ g, g ∈ blks a → g ≠ p ∧ g ≠ pp ∧ g ≠ br)
section
variable {w0 w w' : World} {pp p br : Nat} {st : RS} {r : Rw} {a : Option Addr} {cap : Nat}
theorem Dc.quiet (h : Dc w0 w pp p br st r a cap) (k : Step [] [] w w') : Dc w0 w' pp p br st r a cap := by
  obtain ⟨h1, h2, h3, h4, h5, h6, h7, h8, h9, h10⟩ := h
  exact ⟨h1.step k (by simp), Rdr.step h2 k (by simp), h3, h4.trans (by simpa using k.frame (p :: br :: blks a)), h5, h6.step k (by simp), h7.step k (by simp), h8, h9, h10⟩
theorem Dc.read {st' : RS} (h : Dc w0 w pp p br st r a cap) (g : Rdr w' p st') (k : Step [p] [p] w w') (hl : st'.s.length ≤ st.s.length) : Dc w0 w' pp p br st' r a cap := by
  obtain ⟨h1, h2, h3, h4, h5, h6, h7, h8, h9, h10⟩ := h
  exact ⟨h1.step k (by simpa using h3), g, h3, h4.trans (by simpa using k.frameR (br :: blks a)), by omega, h6.step k (by simpa using h8), h7.step k (fun j hj => by simpa using (h10 j hj).1), h8, h9, h10⟩
theorem Dc.ptr (h : Dc w0 w pp p br st r a cap) : w.cell? ⟨pp, 0, none⟩ = some (.pointer (some ⟨p, 0, none⟩)) ∧ pp < w.heap.size := ⟨by rw [h.1.cell]; rfl, h.1.lt⟩
theorem Dc.out (h : Dc w0 w pp p br st r a cap) : Step [] [] w0 w := h.2.2.2.1.drop (by simp)
theorem Dc.put {T : List Value} {r' : Rw} (h : Dc w0 w pp p br st r a cap) (ss : Step [br] [br] w w') (hb : Blk w' br 24 (rwc r' (.slice a r'.es.length cap)).toArray) (he : r'.es = r.es) : Dc w0 w' pp p br st r' a cap := by
  obtain ⟨h1, h2, h3, h4, h5, h6, h7, h8, h9, h10⟩ := h
  refine ⟨h1.step ss (by simpa using h9.symm), Rdr.step h2 ss (by simpa using h8.symm), h3, ?_, h5, hb, ?_, h8, h9, h10⟩
  · exact (h4.trans (ss.wide (T := p :: br :: blks a) (S'' := p :: br :: blks a) (by simp) (fun g hg => .inl hg)))
  · rw [he]
    exact h7.step ss (fun j hj => by simpa using (h10 j hj).2.2)
theorem dc_num (h : Dc w0 w pp p br st r a cap) : Calls Try.prog 32 #[.pointer (some ⟨pp, 0, none⟩)] w fun e w' => e = .returned (.int .i64 (up st).1) ∧ Dc w0 w' pp p br (up st).2 r a cap := by
  refine (dnum_any pp p st w h.1 h.2.1 (by have := h.2.2.2.2.1; omega)).mono ?_
  rintro e w' ⟨he, g, k⟩
  exact ⟨he, h.read g k (upto_len st _)⟩
theorem dc_upto (h : Dc w0 w pp p br st r a cap) (m : Int) : Calls Try.prog 33 #[.pointer (some ⟨p, 0, none⟩), .int .i64 m] w fun e w' => e = .returned (.int .i64 (upto st m).1) ∧ Dc w0 w' pp p br (upto st m).2 r a cap := by
  refine (upto_any p st m w h.2.1 (by have := h.2.2.2.2.1; omega)).mono ?_
  rintro e w' ⟨he, g, k⟩
  exact ⟨he, h.read g k (upto_len st _)⟩
theorem rtext_len2 (st : RS) (m : Int) : (rtext st m).2.s.length ≤ st.s.length := by
  have h := upto_len st m
  unfold rtext rtake
  split
  · simp [rfail]
  · simp only [List.length_drop]; omega
theorem dc_text (h : Dc w0 w pp p br st r a cap) (m : Int) : Calls Try.prog 35 #[.pointer (some ⟨p, 0, none⟩), .int .i64 m] w fun e w' => e = .returned (Str (rtext st m).1) ∧ Dc w0 w' pp p br (rtext st m).2 r a cap := by
  refine (rtext_any p st m w h.2.1 (by have := h.2.2.2.2.1; omega)).mono ?_
  rintro e w' ⟨he, g, k⟩
  exact ⟨he, h.read g k (rtext_len2 st m)⟩
theorem dc_flag (h : Dc w0 w pp p br st r a cap) : Calls Try.prog 34 #[.pointer (some ⟨p, 0, none⟩)] w fun e w' => e = .returned (.bool (rflag st).1) ∧ Dc w0 w' pp p br (rflag st).2 r a cap := by
  refine (rflag_any p st w h.2.1 (by have := h.2.2.2.2.1; omega)).mono ?_
  rintro e w' ⟨he, g, k⟩
  exact ⟨he, h.read g k (upto_len st _)⟩
/-- The entries have grown by one. -/
theorem Dc.grow {a9 : Option Addr} {cap9 : Nat} {e : Ent} {r' : Rw} (h : Dc w0 w pp p br st r a cap) (st9 : Step (blks a) (blks a9) w w') (hr9 : Row w' 3 a9 (r.es.length + 1) cap9 (entcs r.es ++ entc e)) (hr' : r' = { r with es := r.es ++ [e] }) :
    Dc w0 (w'.setCell ⟨br, 8, none⟩ (.slice a9 (r.es.length + 1) cap9)) pp p br st r' a9 cap9 := by
  subst hr'
  obtain ⟨h1, h2, h3, h4, h5, h6, h7, h8, h9, h10⟩ := h
  have np : p ∉ blks a := fun hg => (h10 p hg).1 rfl
  have npp : pp ∉ blks a := fun hg => (h10 pp hg).2.1 rfl
  have nbr : br ∉ blks a := fun hg => (h10 br hg).2.2 rfl
  have mp := st9.notin (Blk.lt h2) np
  have mpp := st9.notin h1.lt npp
  have mbr := st9.notin h6.lt nbr
  have ss : Step [br] [br] w' (w'.setCell ⟨br, 8, none⟩ (.slice a9 (r.es.length + 1) cap9)) := (Step.refl _ w').setCell (.inl (by simp)) _
  refine ⟨(h1.step st9 npp).step ss (by simpa using h9.symm), Rdr.step (Rdr.step h2 st9 np) ss (by simpa using h8.symm), h3, ?_, h5, ?_, ?_, h8, h9, fun g hg => ⟨fun e => mp (e ▸ hg), fun e => mpp (e ▸ hg), fun e => mbr (e ▸ hg)⟩⟩
  · have k := h4.trans (by simpa using st9.frame [p, br])
    exact k.setCell (.inl (by simp)) _
  · have := (h6.step st9 nbr).set 8 (.slice a9 (r.es.length + 1) cap9)
    simpa [rwc] using this
  · have := hr9.step ss (fun g hg e => by simp at e; subst e; exact mbr hg)
    simpa [entcs] using this
theorem Dc.mid {a9 : Option Addr} (h : Dc w0 w pp p br st r a cap) (st9 : Step (blks a) (blks a9) w w') : Blk w' br 24 (rwc r (.slice a r.es.length cap)).toArray ∧ Blk w' pp 74 #[.pointer (some ⟨p, 0, none⟩)] := by
  obtain ⟨h1, h2, h3, h4, h5, h6, h7, h8, h9, h10⟩ := h
  exact ⟨h6.step st9 (fun hg => (h10 br hg).2.2 rfl), h1.step st9 (fun hg => (h10 pp hg).2.1 rfl)⟩
theorem Dc.new (h : Dc0 w0 w pp p st) (r : Rw) (hr : r.es = []) : Dc w0 (w.alloc (.cells (rwc r (.slice none 0 0)).toArray 24)) pp p w.heap.size st r none 0 := by
  obtain ⟨h1, h2, h3, h4, h5⟩ := h
  have k := (Step.refl [] w).alloc (.cells (rwc r (.slice none 0 0)).toArray 24)
  refine ⟨h1.alloc _, Rdr.step h2 k (by simp), h3, ?_, h5, by rw [hr]; exact Blk.new w _ _, by rw [hr]; exact Row.none _ _, fun e => ?_, fun e => ?_, by simp [blks]⟩
  · exact (h4.hold (.cells (rwc r (.slice none 0 0)).toArray 24)).drop (by intro g hg; simp [blks] at hg ⊢; rcases hg with h | h <;> simp [h])
  · have := Blk.lt h2; omega
  · have := h1.lt; omega
end
theorem letter {K : Act → World → Prop} {a : Act} {w : World} (h : ∀ U, U = w → K a U) : K a w := h w rfl
theorem readEs_len (b : Int) (k : Nat) (st : RS) : (readEs b k st).1.length = k := by
  induction k with
  | zero => rfl
  | succ k ih => simp [readEs, ih]
theorem rd_blk {w : World} {g : Nat} {t : TypeId} {xs : List Value} (h : Blk w g t xs.toArray) (sz n : Nat) (hl : xs.length = n * sz) : Rd w sz (some ⟨g, 0, none⟩) n xs :=
  ⟨hl, fun _ => ⟨g, 0, rfl⟩, fun g' off sp e j u hu => by
    injection e with e
    injection e with e1 e2 e3
    subst e1 e2
    rw [Nat.zero_add, h.cell, List.getElem?_toArray, hu]⟩
theorem entc_one (e : Ent) : ∀ u ∈ entc e, u.oneCell' = true := by
  intro u hu
  simp [entc] at hu
  rcases hu with rfl | rfl | rfl <;> rfl
/-- A message that was read, or none. -/
def DecPost (s : List UInt8) (w : World) (e : Ending) (w' : World) : Prop :=
  ((∃ r m, decL s = some r ∧ e = .returned (.tuple #[m, .int .i64 0]) ∧ IsMsg w' r m ∧ r.data.length ≤ 1099511627776) ∨ (decL s = none ∧ e = .returned (.tuple #[.nilIface, .int .i64 3]))) ∧ Step [] [] w w'
theorem tail_clean (k f t : Int) (s : RS) (hk : isKind k = true) : cleanL (readK k f t s).1 = (readK k f t s).1 ∧ (readK k f t s).1.kind = k := by
  rcases kind_cases hk with rfl | rfl | rfl | rfl | rfl <;> exact ⟨rfl, rfl⟩
end Go.Proofs.Ytihklmomipidaaa
