/-
  Layer 3's statements: tame. No condition beyond what a slice is.
-/
import Derived.Test.YtifjnpdnnfdcoaaPackLaw
import Derived.Test.YtifjnpdnnfdcoaaMem2
namespace Go.Proofs.Ytifjnpdnnfdcoaa
open Go.RowKit
set_option linter.unusedSimpArgs false
set_option linter.unusedVariables false
set_option maxRecDepth 100000

def tame1 (x : It) : It := if x.k = 1 ∨ x.k = 2 then x else ⟨0, x.n, x.s, x.b⟩
def tamed (l : List It) : List It := (l.take 1000).map tame1

theorem Try.info_item : (Try.prog.info? 102).map (fun i => (i.zero, i.size, i.bytes)) = some (some (.agg #[.int .i64 0, .int .i64 0, .string ⟨#[]⟩, .bool false]), 4, 40) := by kernel_rfl

def TamePost (l : List It) (w : World) (e : Ending) (w' : World) : Prop := ∃ a c, e = .returned (.slice a (tamed l).length c) ∧ Row w' 4 a (tamed l).length c (itcs (tamed l)) ∧ Step [] (blks a) w w'

theorem itcs_take (l : List It) (k : Nat) : itcs (l.take k) = (itcs l).take (k * 4) := by
  induction l generalizing k with
  | nil => simp [itcs]
  | cons x l ih =>
    cases k with
    | zero => simp [itcs]
    | succ k =>
      have := ih k
      simp only [itcs, List.take_succ_cons, List.flatMap_cons] at this ⊢
      rw [this, show (k + 1) * 4 = (itc x).length + k * 4 by simp [itc]; omega, List.take_length_add_append]

theorem itcs_one (l : List It) : ∀ u ∈ itcs l, u.oneCell' = true := by
  intro u hu
  simp only [itcs, List.mem_flatMap] at hu
  obtain ⟨x, _, hx⟩ := hu
  simp [itc] at hx
  rcases hx with rfl | rfl | rfl | rfl <;> rfl

theorem itcs_set (l : List It) (k : Nat) (x : It) (h : l[k]? = some x) : (itcs l).set (k * 4) (.int .i64 0) = itcs (l.set k ⟨0, x.n, x.s, x.b⟩) := by
  induction l generalizing k with
  | nil => simp at h
  | cons y l ih =>
    cases k with
    | zero =>
      simp at h
      subst h
      simp [itcs, itc]
    | succ k =>
      simp at h
      have := ih k h
      simp only [itcs, List.flatMap_cons, List.set_cons_succ] at this ⊢
      rw [← this, List.set_append_right _ _ (by simp [itc]; omega)]
      congr 2
      simp [itc]
      omega

theorem tame_at (T : List It) (k : Nat) (hk : k < T.length) : ((T.take k).map tame1 ++ T.drop k)[k]? = some T[k] := by
  rw [List.getElem?_append_right (by simp; omega)]
  simp only [List.length_map, List.length_take]
  rw [show k - min k T.length = 0 by omega, List.getElem?_drop, Nat.add_zero]
  exact List.getElem?_eq_getElem hk

theorem tame_next (T : List It) (k : Nat) (hk : k < T.length) : (T.take (k + 1)).map tame1 ++ T.drop (k + 1) = ((T.take k).map tame1 ++ T.drop k).set k (tame1 T[k]) := by
  rw [List.set_append_right _ _ (by simp; omega)]
  simp only [List.length_map, List.length_take]
  rw [show k - min k T.length = 0 by omega, List.take_succ_eq_append_getElem hk, List.drop_eq_getElem_cons hk]
  simp only [List.map_append, List.map_cons, List.map_nil, List.append_assoc, List.cons_append, List.nil_append, List.set_cons_zero]

theorem set_same {α : Type} (l : List α) (k : Nat) (x : α) (h : l[k]? = some x) : l.set k x = l := by
  apply List.ext_getElem?
  intro j
  rw [List.getElem?_set]
  split
  · rename_i e
    subst e
    rw [h, if_pos (List.getElem?_eq_some_iff.1 h).1]
  · rfl

end Go.Proofs.Ytifjnpdnnfdcoaa
