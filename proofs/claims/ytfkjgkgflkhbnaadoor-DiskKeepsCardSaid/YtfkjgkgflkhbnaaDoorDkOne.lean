/-
  Chapter 6: one disk in the laws without the document's answer; texts that come in. Plain lemmas.
-/
import Derived.Test.YtfkjgkgflkhbnaaDoorDkPair
namespace Go.Proofs.YtfkjgkgflkhbnaaDoor
open Go.RowKit Go.Lib Go.ChangeShapes Go.WideShapes Go.ChangeAt
set_option linter.unusedSimpArgs false
set_option linter.unusedVariables false
set_option maxRecDepth 100000


theorem rd_txt {w : World} {l : List (List UInt8)} {g off : Nat} {sp n} (h : Rd w 1 (some ⟨g, off, sp⟩) n (l.map fun x => Str x)) {k : Nat} {x : List UInt8} (hx : l[k]? = some x) : w.cell? ⟨g, off + k, none⟩ = some (Str x) :=
  h.cell g off sp rfl k _ (by rw [List.getElem?_map, hx]; rfl)
theorem plain_append {s : St} {n b : List UInt8} (ho : s.off = false) (hf : s.fuse = -1) (hn : rightL n = true) : appendS s n b = if (usedE s.E : Int) + b.length > s.room then (6, s) else (0, ⟨addE s.E n b, s.room, -1, false⟩) := by
  unfold appendS
  simp only [ho, hn, Bool.false_eq_true, if_false, Bool.true_eq_false]
  split
  · rfl
  · have : s.burn.off = false := by simp [St.burn, ho, hf]
    have h2 : s.burn.fuse = -1 := by simp [St.burn, hf]
    rw [if_neg (by rw [this]; simp), this, h2]
    rfl
theorem Dk.alloc' {w : World} {S : List Nat} {d : Nat} {s : St} (h : Dk w S d s) (o : Obj) : Dk (w.alloc o) S d s := h.keep ((Step.refl [] w).alloc o)
theorem op_strs' {w : World} {v : Value} {b0 : Nat} (h1 : Value.okWide Tryd.prog w .any b0 22 v) (o1 : Op Tryd.prog w 22 v.cells.toList) : ∃ (l : List (List UInt8)) (a : Option Addr) (cap : Nat), v = .slice a l.length cap ∧ Rd w 1 a l.length (l.map fun x => Str x) ∧ (∀ x ∈ l, x.length ≤ 140737488351232) ∧ l.length ≤ 4611686018427387904 := by
  obtain ⟨a9, n9, c9, rfl⟩ := okWide_slice Tryd.underlying22 h1
  obtain ⟨a, n, cap, e, h1, h2, h3, h4⟩ := o1.slice Tryd.underlying22 (sz := 1) (by kernel_rfl)
  rw [show Tryd.prog.bytesOf 9 = 16 by kernel_rfl] at h3
  obtain ⟨l, a, cap2, e2, g1, g2, g3, g4⟩ := op_strs o1
  simp [Value.cells] at e e2
  obtain ⟨rfl, rfl, rfl⟩ := e
  obtain ⟨rfl, e3, rfl⟩ := e2
  subst e3
  exact ⟨l, _, _, rfl, g3, g4, by omega⟩

end Go.Proofs.YtfkjgkgflkhbnaaDoor
