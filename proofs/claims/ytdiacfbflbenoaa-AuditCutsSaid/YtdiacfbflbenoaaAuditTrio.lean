/-
  Two chains side by side, and a line in a block of its own. Condition: at most 2^40 lines each.
-/
import Derived.Test.YtdiacfbflbenoaaAuditPair
namespace Go.Proofs.Ytdiacfbflbenoaa
open Go.RowKit
set_option linter.unusedSimpArgs false
set_option linter.unusedVariables false

def Trio (w0 w : World) (p q : Nat) (c d : Ch) (b : Nat) (x : Ln) : Prop := ∃ S T, Chn w p S c ∧ Chn w q T d ∧ (∀ g, g ∈ S → g ∉ T) ∧ Step [] (S ++ T) w0 w ∧ Blk w b 32 (lnc x).toArray ∧ b ∉ S ∧ b ∉ T
theorem Trio.pair {w0 w : World} {p q b : Nat} {c d : Ch} {x : Ln} (h : Trio w0 w p q c d b x) : Pair w0 w p q c d := by
  obtain ⟨S, T, h1, h2, h3, h4, _⟩ := h
  exact ⟨S, T, h1, h2, h3, h4⟩
theorem Trio.blk {w0 w : World} {p q b : Nat} {c d : Ch} {x : Ln} (h : Trio w0 w p q c d b x) : Blk w b 32 (lnc x).toArray := by
  obtain ⟨S, T, h1, h2, h3, h4, h5, _⟩ := h
  exact h5
theorem Pair.trio {w0 w : World} {p q : Nat} {c d : Ch} (h : Pair w0 w p q c d) (x : Ln) : Trio w0 (w.alloc (.cells (lnc x).toArray 32)) p q c d w.heap.size x := by
  obtain ⟨S, T, h1, h2, h3, h4⟩ := h
  have k := (Step.refl [] w).alloc (.cells (lnc x).toArray 32)
  exact ⟨S, T, h1.step k (by simp), h2.step k (by simp), h3, h4.alloc _, Blk.new w _ _, fun hg => Nat.lt_irrefl _ (h1.lt _ hg), fun hg => Nat.lt_irrefl _ (h2.lt _ hg)⟩
theorem Trio.quiet {w0 w w' : World} {p q b : Nat} {c d : Ch} {x : Ln} (h : Trio w0 w p q c d b x) (k : Step [] [] w w') : Trio w0 w' p q c d b x := by
  obtain ⟨S, T, h1, h2, h3, h4, h5, h6, h7⟩ := h
  exact ⟨S, T, h1.step k (by simp), h2.step k (by simp), h3, h4.trans (k.up _), h5.step k (by simp), h6, h7⟩
theorem trio_add1 {w0 w : World} {p q b : Nat} {c d : Ch} {y : Ln} (h : Trio w0 w p q c d b y) (x : Ln) (hc : ChOk c) (hx : LnOk x) (hh : (headL c.base c.ls).hash.length ≤ 1073741824) :
    Calls Try.prog 10 #[.pointer (some ⟨p, 0, none⟩), lnV x] w fun e w' => e = .returned (.bool (canAdd c x)) ∧ Trio w0 w' p q (addL c x) d b y := by
  obtain ⟨S, T, h1, h2, h3, h4, h5, h6, h7⟩ := h
  refine (add_any p S c x w h1 hc hx hh).mono ?_
  rintro e w' ⟨S', he, g, k⟩
  exact ⟨he, S', T, g, h2.step k (fun g hg hs => h3 g hs hg), fun g hs ht => k.notin (h2.lt g ht) (fun hS => h3 g hS ht) hs, h4.trans (k.frameR T), h5.step k h6, k.notin h5.lt h6, h7⟩
theorem trio_add2 {w0 w : World} {p q b : Nat} {c d : Ch} {y : Ln} (h : Trio w0 w p q c d b y) (x : Ln) (hc : ChOk d) (hx : LnOk x) (hh : (headL d.base d.ls).hash.length ≤ 1073741824) :
    Calls Try.prog 10 #[.pointer (some ⟨q, 0, none⟩), lnV x] w fun e w' => e = .returned (.bool (canAdd d x)) ∧ Trio w0 w' p q c (addL d x) b y := by
  obtain ⟨S, T, h1, h2, h3, h4, h5, h6, h7⟩ := h
  refine (add_any q T d x w h2 hc hx hh).mono ?_
  rintro e w' ⟨T', he, g, k⟩
  exact ⟨he, S, T', h1.step k (fun g hg ht => h3 g hg ht), g, fun g hs ht => k.notin (h1.lt g hs) (fun hT => h3 g hs hT) ht, h4.trans (k.frame S), h5.step k h7, h6, k.notin h5.lt h7⟩
end Go.Proofs.Ytdiacfbflbenoaa
