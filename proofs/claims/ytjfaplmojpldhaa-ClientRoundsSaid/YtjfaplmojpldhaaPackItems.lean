/-
  Layer 3's things as the statements write them: put. Condition: texts of at most 2^49 bytes.
-/
import Derived.Test.YtjfaplmojpldhaaPackW2
namespace Go.Proofs.Ytjfaplmojpldhaa
open Go.RowKit
set_option linter.unusedSimpArgs false
set_option linter.unusedVariables false
set_option maxRecDepth 100000

/-- A thing. -/
structure It where
  k : Int
  n : Int
  s : List UInt8
  b : Bool

def itc (x : It) : List Value := [.int .i64 x.k, .int .i64 x.n, Str x.s, .bool x.b]
def itcs (l : List It) : List Value := l.flatMap itc
theorem itcs_len (l : List It) : (itcs l).length = l.length * 4 := by
  induction l with
  | nil => rfl
  | cons x l ih => simp [itcs, itc] at ih ⊢; omega
theorem itcs_at (l : List It) (i : Nat) (x : It) (h : l[i]? = some x) (j : Nat) (hj : j < 4) : (itcs l)[i * 4 + j]? = (itc x)[j]? := by
  induction l generalizing i with
  | nil => simp at h
  | cons y l ih =>
    cases i with
    | zero =>
      simp at h
      subst h
      simp only [itcs, List.flatMap_cons]
      rw [List.getElem?_append_left (by simp [itc]; omega)]
      simp
    | succ i =>
      simp at h
      have := ih i h
      simp only [itcs, List.flatMap_cons] at this ⊢
      rw [List.getElem?_append_right (by simp [itc]; omega), ← this]
      congr 1
      simp [itc]
      omega

theorem rd_item {w : World} {l : List It} {g off : Nat} {sp n} (h : Rd w 4 (some ⟨g, off, sp⟩) n (itcs l)) {k : Nat} {x : It} (hx : l[k]? = some x) :
    w.cell? ⟨g, off + k * 4, none⟩ = some (.int .i64 x.k) ∧ w.cell? ⟨g, off + k * 4 + 1, none⟩ = some (.int .i64 x.n) ∧ w.cell? ⟨g, off + k * 4 + 2, none⟩ = some (Str x.s) ∧ w.cell? ⟨g, off + k * 4 + 3, none⟩ = some (.bool x.b) :=
  ⟨h.cell g off sp rfl (k * 4 + 0) _ ((itcs_at l k _ hx 0 (by omega)).trans rfl), h.cell g off sp rfl (k * 4 + 1) _ ((itcs_at l k _ hx 1 (by omega)).trans rfl),
   h.cell g off sp rfl (k * 4 + 2) _ ((itcs_at l k _ hx 2 (by omega)).trans rfl), h.cell g off sp rfl (k * 4 + 3) _ ((itcs_at l k _ hx 3 (by omega)).trans rfl)⟩

/-- A thing that fits: its number is an int, its text is not too long. -/
def It.ok (x : It) : Prop := x.n < 9223372036854775808 ∧ x.s.length ≤ 562949953421312

def wone (st : WS) (x : It) : WS := if x.k = 1 then wtext st x.s else if x.k = 2 then wflag st x.b else wnum st x.n

def PutPost (l : List It) (w : World) (e : Ending) (w' : World) : Prop := ∃ p S, e = .returned (.pointer (some ⟨p, 0, none⟩)) ∧ Wr w' p S (l.foldl wone ⟨[], 0⟩) ∧ Step [] S w w'

end Go.Proofs.Ytjfaplmojpldhaa
