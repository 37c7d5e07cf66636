/-
  Two chains in memory side by side. Condition: at most 2^40 lines each.
-/
import Derived.Test.YtdiacfbflbenoaaAuditLaw
import Derived.Test.YtdiacfbflbenoaaAuditCutsPlain
namespace Go.Proofs.Ytdiacfbflbenoaa
open Go.RowKit
set_option linter.unusedSimpArgs false
set_option linter.unusedVariables false

def Pair (w0 w : World) (p q : Nat) (c d : Ch) : Prop := ∃ S T, Chn w p S c ∧ Chn w q T d ∧ (∀ g, g ∈ S → g ∉ T) ∧ Step [] (S ++ T) w0 w
theorem Pair.quiet {w0 w w' : World} {p q : Nat} {c d : Ch} (h : Pair w0 w p q c d) (k : Step [] [] w w') : Pair w0 w' p q c d := by
  obtain ⟨S, T, h1, h2, h3, h4⟩ := h
  exact ⟨S, T, h1.step k (by simp), h2.step k (by simp), h3, h4.trans (k.up _)⟩
theorem Pair.out {w0 w : World} {p q : Nat} {c d : Ch} (h : Pair w0 w p q c d) : Step [] [] w0 w := by
  obtain ⟨S, T, h1, h2, h3, h4⟩ := h
  exact h4.drop (by simp)
theorem Pair.first {w0 w w' : World} {p q : Nat} {c d c' : Ch} {S T S' : List Nat} (h1 : Chn w p S c) (h2 : Chn w q T d) (h3 : ∀ g, g ∈ S → g ∉ T) (h4 : Step [] (S ++ T) w0 w) (g1 : Chn w' p S' c') (k : Step S S' w w') : Pair w0 w' p q c' d :=
  ⟨S', T, g1, h2.step k (fun g hg hs => h3 g hs hg), fun g hs ht => k.notin (h2.lt g ht) (fun hS => h3 g hS ht) hs, h4.trans (k.frameR T)⟩
theorem Pair.second {w0 w w' : World} {p q : Nat} {c d d' : Ch} {S T T' : List Nat} (h1 : Chn w p S c) (h2 : Chn w q T d) (h3 : ∀ g, g ∈ S → g ∉ T) (h4 : Step [] (S ++ T) w0 w) (g2 : Chn w' q T' d') (k : Step T T' w w') : Pair w0 w' p q c d' :=
  ⟨S, T', h1.step k (fun g hg ht => h3 g hg ht), g2, fun g hs ht => k.notin (h1.lt g hs) (fun hT => h3 g hs hT) ht, h4.trans (k.frame S)⟩
theorem pair_add1 {w0 w : World} {p q : Nat} {c d : Ch} (h : Pair w0 w p q c d) (x : Ln) (hc : ChOk c) (hx : LnOk x) (hh : (headL c.base c.ls).hash.length ≤ 1073741824) :
    Calls Try.prog 10 #[.pointer (some ⟨p, 0, none⟩), lnV x] w fun e w' => e = .returned (.bool (canAdd c x)) ∧ Pair w0 w' p q (addL c x) d := by
  obtain ⟨S, T, h1, h2, h3, h4⟩ := h
  refine (add_any p S c x w h1 hc hx hh).mono ?_
  rintro e w' ⟨S', he, g, k⟩
  exact ⟨he, Pair.first h1 h2 h3 h4 g k⟩
theorem pair_add2 {w0 w : World} {p q : Nat} {c d : Ch} (h : Pair w0 w p q c d) (x : Ln) (hc : ChOk d) (hx : LnOk x) (hh : (headL d.base d.ls).hash.length ≤ 1073741824) :
    Calls Try.prog 10 #[.pointer (some ⟨q, 0, none⟩), lnV x] w fun e w' => e = .returned (.bool (canAdd d x)) ∧ Pair w0 w' p q c (addL d x) := by
  obtain ⟨S, T, h1, h2, h3, h4⟩ := h
  refine (add_any q T d x w h2 hc hx hh).mono ?_
  rintro e w' ⟨T', he, g, k⟩
  exact ⟨he, Pair.second h1 h2 h3 h4 g k⟩
theorem pair_cut2 {w0 w : World} {p q : Nat} {c d : Ch} (h : Pair w0 w p q c d) (n : Int) (hc : ChOk d) :
    Calls Try.prog 12 #[.pointer (some ⟨q, 0, none⟩), .int .i64 n] w fun e w' => e = .returned (.bool (canCut d n)) ∧ Pair w0 w' p q c (cutL d n) := by
  obtain ⟨S, T, h1, h2, h3, h4⟩ := h
  refine (cut_any q T d n w h2 hc).mono ?_
  rintro e w' ⟨T', he, g, k⟩
  exact ⟨he, Pair.second h1 h2 h3 h4 g k⟩
end Go.Proofs.Ytdiacfbflbenoaa
