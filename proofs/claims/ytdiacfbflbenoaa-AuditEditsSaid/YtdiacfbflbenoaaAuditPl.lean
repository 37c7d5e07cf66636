/-
  A chain in memory and the reference's in a block besides, and an operation in a block of its own. Condition: at most 2^40 lines.
-/
import Derived.Test.YtdiacfbflbenoaaAuditN
namespace Go.Proofs.Ytdiacfbflbenoaa
open Go.RowKit
set_option linter.unusedSimpArgs false
set_option linter.unusedVariables false

structure OpL where
  k : Int
  l : Ln
  n : Int
def opc (o : OpL) : List Value := .int .i64 o.k :: (lnc o.l ++ [.int .i64 o.n])
def chc (d : Ch) (a : Option Addr) (cap : Nat) : Array Value := #[.int .i64 d.base.count, Str d.base.hash, .slice a d.ls.length cap]
def PlS (w0 w : World) (p b : Nat) (c d : Ch) (a : Option Addr) (cap : Nat) (bo : Nat) (o : OpL) (S : List Nat) : Prop :=
  Chn w p S c ∧ Blk w b 29 (chc d a cap) ∧ Row w 8 a d.ls.length cap (lncs d.ls) ∧ b ∉ S ∧ (∀ g, g ∈ blks a → g ∉ S ∧ g ≠ b) ∧ Step [] (b :: S) w0 w ∧ Blk w bo 34 (opc o).toArray ∧ bo ∉ S ∧ bo ≠ b
def PlA (w0 w : World) (p b : Nat) (c d : Ch) (a : Option Addr) (cap : Nat) (bo : Nat) (o : OpL) : Prop := ∃ S, PlS w0 w p b c d a cap bo o S
/-- Without an operation. -/
def PlC (w0 w : World) (p b : Nat) (c : Ch) (a : Option Addr) (cap : Nat) : Prop :=
  ∃ S, Chn w p S c ∧ Blk w b 29 (chc c a cap) ∧ Row w 8 a c.ls.length cap (lncs c.ls) ∧ b ∉ S ∧ (∀ g, g ∈ blks a → g ∉ S ∧ g ≠ b) ∧ Step [] (b :: S) w0 w
theorem PlA.plc {w0 w : World} {p b bo : Nat} {c : Ch} {a : Option Addr} {cap : Nat} {o : OpL} (h : PlA w0 w p b c c a cap bo o) : PlC w0 w p b c a cap := by
  obtain ⟨S, h1, h2, h3, h4, h5, h6, _⟩ := h
  exact ⟨S, h1, h2, h3, h4, h5, h6⟩
theorem PlC.pla {w0 w : World} {p b : Nat} {c : Ch} {a : Option Addr} {cap : Nat} (h : PlC w0 w p b c a cap) (o : OpL) : PlA w0 (w.alloc (.cells (opc o).toArray 34)) p b c c a cap w.heap.size o := by
  obtain ⟨S, h1, h2, h3, h4, h5, h6⟩ := h
  have k := (Step.refl [] w).alloc (.cells (opc o).toArray 34)
  exact ⟨S, h1.step k (by simp), h2.alloc _, h3.alloc _, h4, h5, h6.alloc _, Blk.new w _ _, fun hg => Nat.lt_irrefl _ (h1.lt _ hg), fun e => by have := h2.lt; omega⟩
theorem PlC.out {w0 w : World} {p b : Nat} {c : Ch} {a : Option Addr} {cap : Nat} (h : PlC w0 w p b c a cap) : Step [] [] w0 w := by
  obtain ⟨S, h1, h2, h3, h4, h5, h6⟩ := h
  exact h6.drop (by simp)
theorem PlA.quiet {w0 w w' : World} {p b bo : Nat} {c d : Ch} {a : Option Addr} {cap : Nat} {o : OpL} (h : PlA w0 w p b c d a cap bo o) (k : Step [] [] w w') : PlA w0 w' p b c d a cap bo o := by
  obtain ⟨S, h1, h2, h3, h4, h5, h6, h7, h8, h9⟩ := h
  exact ⟨S, h1.step k (by simp), h2.step k (by simp), h3.step k (by simp), h4, h5, h6.trans (k.up _), h7.step k (by simp), h8, h9⟩
theorem PlA.out {w0 w : World} {p b bo : Nat} {c d : Ch} {a : Option Addr} {cap : Nat} {o : OpL} (h : PlA w0 w p b c d a cap bo o) : Step [] [] w0 w := by
  obtain ⟨S, h1, h2, h3, h4, h5, h6, h7, h8, h9⟩ := h
  exact h6.drop (by simp)
theorem PlA.own {w0 w w' : World} {p b bo : Nat} {c c' d : Ch} {a : Option Addr} {cap : Nat} {o : OpL} {S S' : List Nat} (h : PlS w0 w p b c d a cap bo o S) (g : Chn w' p S' c') (k : Step S S' w w') : PlA w0 w' p b c' d a cap bo o := by
  obtain ⟨h1, h2, h3, h4, h5, h6, h7, h8, h9⟩ := h
  exact ⟨S', g, h2.step k h4, h3.step k (fun j hj => (h5 j hj).1), k.notin h2.lt h4, fun j hj => ⟨k.notin (h3.lt j hj) (h5 j hj).1, (h5 j hj).2⟩, h6.trans (by simpa using k.frame [b]), h7.step k h8, k.notin h7.lt h8, h9⟩
theorem pla_add1 {w0 w : World} {p b bo : Nat} {c d : Ch} {a : Option Addr} {cap : Nat} {o : OpL} (h : PlA w0 w p b c d a cap bo o) (x : Ln) (hc : ChOk c) (hx : LnOk x) (hh : (headL c.base c.ls).hash.length ≤ 1073741824) :
    Calls Try.prog 10 #[.pointer (some ⟨p, 0, none⟩), lnV x] w fun e w' => e = .returned (.bool (canAdd c x)) ∧ PlA w0 w' p b (addL c x) d a cap bo o := by
  obtain ⟨S, h⟩ := h
  refine (add_any p S c x w h.1 hc hx hh).mono ?_
  rintro e w' ⟨S', he, g, k⟩
  exact ⟨he, PlA.own h g k⟩
theorem pla_cut1 {w0 w : World} {p b bo : Nat} {c d : Ch} {a : Option Addr} {cap : Nat} {o : OpL} (h : PlA w0 w p b c d a cap bo o) (n : Int) (hc : ChOk c) :
    Calls Try.prog 12 #[.pointer (some ⟨p, 0, none⟩), .int .i64 n] w fun e w' => e = .returned (.bool (canCut c n)) ∧ PlA w0 w' p b (cutL c n) d a cap bo o := by
  obtain ⟨S, h⟩ := h
  refine (cut_any p S c n w h.1 hc).mono ?_
  rintro e w' ⟨S', he, g, k⟩
  exact ⟨he, PlA.own h g k⟩
/-- What the reference answered, ahead of its being put. -/
def PlR (w0 w : World) (p b : Nat) (c d d' : Ch) (a : Option Addr) (cap : Nat) (bo : Nat) (o : OpL) (a' : Option Addr) (cap' : Nat) : Prop :=
  ∃ S, PlS w0 w p b c d a cap bo o S ∧ Row w 8 a' d'.ls.length cap' (lncs d'.ls) ∧ ∀ g, g ∈ blks a' → g ∉ S ∧ g ≠ b
def PlRef (w0 : World) (p b : Nat) (c d d' : Ch) (ok : Bool) (a : Option Addr) (cap : Nat) (bo : Nat) (o : OpL) (e : Ending) (w' : World) : Prop :=
  ∃ a' cap', e = .returned (.tuple #[.agg #[.int .i64 d'.base.count, Str d'.base.hash, .slice a' d'.ls.length cap'], .bool ok]) ∧ PlR w0 w' p b c d d' a cap bo o a' cap'
theorem PlR.of {w0 w w' : World} {p b bo : Nat} {c d d' : Ch} {ok : Bool} {a : Option Addr} {cap : Nat} {o : OpL} {e : Ending} (h : PlA w0 w p b c d a cap bo o) (k : RefAddPost d' ok a w e w') : PlRef w0 p b c d d' ok a cap bo o e w' := by
  obtain ⟨S, h⟩ := h
  obtain ⟨a', cap', he, g, st, hf⟩ := k
  refine ⟨a', cap', he, S, ?_, g, fun j hj => ?_⟩
  · obtain ⟨h1, h2, h3, h4, h5, h6, h7, h8, h9⟩ := h
    exact ⟨h1.step st (by simp), h2.step st (by simp), h3.step st (by simp), h4, h5, h6.trans (st.up _), h7.step st (by simp), h8, h9⟩
  · rcases hf j hj with hj | hj
    · exact h.2.2.2.2.1 j hj
    · exact ⟨fun hs => by have := h.1.lt j hs; omega, fun e => by have := h.2.1.lt; omega⟩
theorem PlR.put {w0 w : World} {p b bo : Nat} {c d d' : Ch} {a a' : Option Addr} {cap cap' : Nat} {o : OpL} (h : PlR w0 w p b c d d' a cap bo o a' cap') :
    PlA w0 (((w.setCell ⟨b, 0, none⟩ (.int .i64 d'.base.count)).setCell ⟨b, 1, none⟩ (Str d'.base.hash)).setCell ⟨b, 2, none⟩ (.slice a' d'.ls.length cap')) p b c d' a' cap' bo o := by
  obtain ⟨S, ⟨h1, h2, h3, h4, h5, h6, h7, h8, h9⟩, g, hf⟩ := h
  have ss : Step [b] [b] w (((w.setCell ⟨b, 0, none⟩ (.int .i64 d'.base.count)).setCell ⟨b, 1, none⟩ (Str d'.base.hash)).setCell ⟨b, 2, none⟩ (.slice a' d'.ls.length cap')) := (((Step.refl _ w).setCell (.inl (by simp)) _).setCell (.inl (by simp)) _).setCell (.inl (by simp)) _
  refine ⟨S, h1.step ss (fun j hj e => by simp at e; subst e; exact h4 hj), ?_, g.step ss (fun j hj e => by simp at e; exact (hf j hj).2 e), h4, hf, ?_, h7.step ss (by simpa using h9), h8, h9⟩
  · simpa [chc] using ((h2.set 0 (.int .i64 d'.base.count)).set 1 (Str d'.base.hash)).set 2 (.slice a' d'.ls.length cap')
  · exact ((h6.setCell (.inl (by simp)) _).setCell (.inl (by simp)) _).setCell (.inl (by simp)) _
theorem pla_add2 {w0 w : World} {p b bo : Nat} {c d : Ch} {a : Option Addr} {cap : Nat} {o : OpL} (h : PlA w0 w p b c d a cap bo o) (x : Ln) (hc : ChOk d) (hx : LnOk x) (hh : (headL d.base d.ls).hash.length ≤ 1073741824) :
    Calls Try.prog 11 #[.agg #[.int .i64 d.base.count, Str d.base.hash, .slice a d.ls.length cap], lnV x] w (PlRef w0 p b c d (addL d x) (canAdd d x) a cap bo o) := by
  have h3 : Row w 8 a d.ls.length cap (lncs d.ls) := by obtain ⟨S, h⟩ := h; exact h.2.2.1
  exact (refAdd_any d x a cap w h3 hc hx hh).mono fun e w' k => PlR.of h k
theorem pla_cut2 {w0 w : World} {p b bo : Nat} {c d : Ch} {a : Option Addr} {cap : Nat} {o : OpL} (h : PlA w0 w p b c d a cap bo o) (n : Int) (hc : ChOk d) :
    Calls Try.prog 13 #[.agg #[.int .i64 d.base.count, Str d.base.hash, .slice a d.ls.length cap], .int .i64 n] w (PlRef w0 p b c d (cutL d n) (canCut d n) a cap bo o) := by
  have h3 : Row w 8 a d.ls.length cap (lncs d.ls) := by obtain ⟨S, h⟩ := h; exact h.2.2.1
  exact (refCut_any d n a cap w h3 hc).mono fun e w' k => PlR.of h k
theorem pla_head {w0 w : World} {p b bo : Nat} {c d : Ch} {a : Option Addr} {cap : Nat} {o : OpL} (h : PlA w0 w p b c d a cap bo o) (hc : ChOk c) :
    Calls Try.prog 14 #[.pointer (some ⟨p, 0, none⟩)] w fun e w' => e = .returned (.tuple #[.int .i64 (headL c.base c.ls).count, Str (headL c.base c.ls).hash]) ∧ PlA w0 w' p b c d a cap bo o := by
  have H := h
  obtain ⟨S, h⟩ := h
  exact (headOut_any p S c w h.1 hc).mono fun e w' ⟨he, k⟩ => ⟨he, H.quiet k⟩
theorem pla_base {w0 w : World} {p b bo : Nat} {c d : Ch} {a : Option Addr} {cap : Nat} {o : OpL} (h : PlA w0 w p b c d a cap bo o) :
    Calls Try.prog 15 #[.pointer (some ⟨p, 0, none⟩)] w fun e w' => e = .returned (.tuple #[.int .i64 c.base.count, Str c.base.hash]) ∧ PlA w0 w' p b c d a cap bo o := by
  have H := h
  obtain ⟨S, h⟩ := h
  exact (base_any p S c w h.1).mono fun e w' ⟨he, k⟩ => ⟨he, H.quiet k⟩
theorem pla_same {w0 w : World} {p b bo : Nat} {c : Ch} {a : Option Addr} {cap : Nat} {o : OpL} (h : PlA w0 w p b c c a cap bo o) (hc : ChOk c) :
    Calls Try.prog 16 #[.pointer (some ⟨p, 0, none⟩), .agg #[.int .i64 c.base.count, Str c.base.hash, .slice a c.ls.length cap]] w fun e w' => e = .returned (.bool true) ∧ PlA w0 w' p b c c a cap bo o := by
  have H := h
  obtain ⟨S, h⟩ := h
  exact (same19_any p S c a cap w h.1 h.2.2.1 hc).mono fun e w' ⟨he, k⟩ => ⟨he, H.quiet k⟩
def PlLines (w0 : World) (p b : Nat) (c d : Ch) (a : Option Addr) (cap : Nat) (bo : Nat) (o : OpL) (e : Ending) (w' : World) : Prop :=
  ∃ a' cap', e = .returned (.slice a' c.ls.length cap') ∧ Rd w' 8 a' c.ls.length (lncs c.ls) ∧ PlA w0 w' p b c d a cap bo o
theorem pla_lines {w0 w : World} {p b bo : Nat} {c d : Ch} {a : Option Addr} {cap : Nat} {o : OpL} (h : PlA w0 w p b c d a cap bo o) (hc : ChOk c) :
    Calls Try.prog 18 #[.pointer (some ⟨p, 0, none⟩)] w (PlLines w0 p b c d a cap bo o) := by
  have H := h
  obtain ⟨S, h⟩ := h
  refine (lines_any p S c w h.1 hc).mono ?_
  rintro e w' ⟨a', cap', rfl, g, k⟩
  exact ⟨a', cap', rfl, g.rd, H.quiet (k.drop (by simp))⟩
/-- What the loop keeps of a chain. -/
structure Fit2 (c : Ch) (k : Nat) : Prop where
  base : 0 ≤ c.base.count ∧ c.base.count + c.ls.length ≤ k
  hash : (headL c.base c.ls).hash.length ≤ 1073741824
  bash : c.base.hash.length ≤ 1073741824
  ok : ∀ y ∈ c.ls, LnOk y
  inv : Inv c
theorem Fit2.chok {c : Ch} {k : Nat} (h : Fit2 c k) (hk : k ≤ 1000) : ChOk c := ⟨by have := h.base; omega, by have := h.base; omega⟩
theorem added_ok {c : Ch} {x : Ln} (h : LnOk x) : LnOk (addedL c x) := ⟨h.index, h.client, h.seq, h.kind, h.err, h.user, h.digest, by show (nextL _ _ _).length ≤ _; rw [next_len]; omega⟩
theorem Fit2.add {c : Ch} {k : Nat} (h : Fit2 c k) (x : Ln) (hx : LnOk x) : Fit2 (addL c x) (k + 1) := by
  refine ⟨by rw [addL_base]; have := addL_len c x; have := h.base; omega, ?_, by rw [addL_base]; exact h.bash, ?_, h.inv.add x⟩
  · unfold addL
    split
    · show (headL c.base (c.ls ++ [addedL c x])).hash.length ≤ _
      rw [headL_snoc]
      show (nextL _ _ _).length ≤ _
      rw [next_len]
      omega
    · exact h.hash
  · unfold addL
    split
    · intro y hy
      rcases List.mem_append.1 hy with hy | hy
      · exact h.ok y hy
      · simp at hy; subst hy; exact added_ok hx
    · exact h.ok
theorem Fit2.cut {c : Ch} {k : Nat} (h : Fit2 c k) (n : Int) : Fit2 (cutL c n) (k + 1) := by
  have hb := h.base
  have hi := h.inv.cut n
  refine ⟨?_, by rw [← (CutRel.cut c n).head]; exact h.hash, ?_, ?_, hi⟩
  · unfold cutL
    split
    · show 0 ≤ (headL c.base _).count ∧ (headL c.base _).count + _ ≤ _
      rw [headL_count, List.length_take, List.length_drop]
      omega
    · omega
  · have := hi.base
    simp only [baseOk, Bool.and_eq_true, decide_eq_true_eq] at this
    omega
  · unfold cutL
    split
    · intro y hy; exact h.ok y (List.mem_of_mem_drop hy)
    · exact h.ok
theorem Fit2.new : Fit2 newL 0 := ⟨by simp [newL], by decide, by decide, by simp [newL], Inv.new⟩
end Go.Proofs.Ytdiacfbflbenoaa
