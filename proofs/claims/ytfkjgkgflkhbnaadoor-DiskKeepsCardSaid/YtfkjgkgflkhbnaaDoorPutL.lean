/-
  A struct's cells stored one after another into a block; lists of structs in memory. Plain lemmas.
-/
import Derived.Test.YtfkjgkgflkhbnaaDoorMem5
import Derived.Test.YtfkjgkgflkhbnaaDoorOpen
namespace Go.Proofs.YtfkjgkgflkhbnaaDoor
open Go.RowKit
set_option linter.unusedSimpArgs false
set_option linter.unusedVariables false

def putL (w : World) (b : Nat) : Nat → List Value → World
  | _, [] => w
  | i, v :: r => putL (w.setCell ⟨b, i, none⟩ v) b (i + 1) r
theorem step_putL (b : Nat) (vs : List Value) : ∀ (i : Nat) (w : World), Step [b] [b] w (putL w b i vs) := by
  induction vs with
  | nil => exact fun i w => Step.refl _ w
  | cons v r ih =>
    intro i w
    exact ((Step.refl [b] w).setCell (.inl (by simp)) v).trans (ih (i + 1) _)
theorem take_set_one (l : List Value) (i : Nat) (v : Value) (h : i < l.length) : (l.set i v).take (i + 1) = l.take i ++ [v] := by
  induction l generalizing i with
  | nil => simp at h
  | cons a l ih =>
    cases i with
    | zero => simp
    | succ i => simp at h; simp [ih i h]
theorem Blk.putL {b : Nat} {T : TypeId} (vs : List Value) : ∀ (i : Nat) (w : World) (cs : Array Value), Blk w b T cs → cs.size = i + vs.length → Blk (putL w b i vs) b T (cs.toList.take i ++ vs).toArray := by
  induction vs with
  | nil =>
    intro i w cs h hl
    have : (cs.toList.take i ++ []).toArray = cs := by
      rw [List.append_nil, List.take_of_length_le (by simpa using Nat.le_of_eq hl)]
    rw [this]
    exact h
  | cons v r ih =>
    intro i w cs h hl
    simp only [List.length_cons] at hl
    have k := ih (i + 1) _ _ (Blk.set h i v) (by simp; omega)
    have e : ((cs.setIfInBounds i v).toList.take (i + 1) ++ r).toArray = (cs.toList.take i ++ v :: r).toArray := by
      congr 1
      rw [Array.toList_setIfInBounds, take_set_one _ _ _ (by simp; omega), List.append_assoc]
      rfl
    rw [e] at k
    exact k
theorem Blk.put0 {w : World} {b : Nat} {T : TypeId} {cs : Array Value} (h : Blk w b T cs) (vs : List Value) (hl : cs.size = vs.length) : Blk (Go.Proofs.YtfkjgkgflkhbnaaDoor.putL w b 0 vs) b T vs.toArray := by
  have := Blk.putL vs 0 w cs h (by omega)
  simpa using this
/-! ### lists of structs -/
section
variable {α : Type} (f : α → List Value) (sz : Nat) (hf : ∀ x, (f x).length = sz)
include hf
theorem fl_at (l : List α) (i : Nat) (x : α) (h : l[i]? = some x) (j : Nat) (hj : j < sz) : (l.flatMap f)[i * sz + j]? = (f x)[j]? := by
  induction l generalizing i with
  | nil => simp at h
  | cons y l ih =>
    cases i with
    | zero =>
      simp at h
      subst h
      simp only [List.flatMap_cons, Nat.zero_mul, Nat.zero_add]
      rw [List.getElem?_append_left (by rw [hf]; omega)]
    | succ i =>
      simp at h
      have := ih i h
      simp only [List.flatMap_cons]
      rw [List.getElem?_append_right (by rw [hf, Nat.succ_mul]; omega), ← this]
      congr 1
      rw [hf, Nat.succ_mul]
      omega
theorem rd_fl {w : World} {l : List α} {g off : Nat} {sp n} (h : Rd w sz (some ⟨g, off, sp⟩) n (l.flatMap f)) {k : Nat} {x : α} (hx : l[k]? = some x) (j : Nat) (hj : j < sz) (v : Value) (hv : (f x)[j]? = some v) :
    w.cell? ⟨g, off + k * sz + j, none⟩ = some v := by
  rw [Nat.add_assoc]
  exact h.cell g off sp rfl (k * sz + j) _ ((fl_at f sz hf l k x hx j hj).trans hv)
end
theorem fl_one {α : Type} (f : α → List Value) (h1 : ∀ x, ∀ u ∈ f x, u.oneCell' = true) (l : List α) : ∀ u ∈ l.flatMap f, u.oneCell' = true := by
  intro u hu
  obtain ⟨x, _, hx⟩ := List.mem_flatMap.1 hu
  exact h1 x u hx
theorem row_blk' {w : World} {g : Nat} {t : TypeId} {xs : List Value} (h : Blk w g t xs.toArray) (sz n : Nat) (hl : xs.length = n * sz) (hm : n ≤ maxLen) : Row w sz (some ⟨g, 0, none⟩) n n xs :=
  ⟨hl, Nat.le_refl _, hm, (fun e => by cases e), fun ad e => by
    injection e with e
    subst e
    exact ⟨rfl, xs.toArray, h.cells, by simp [hl], by simp [← hl]⟩⟩
theorem rd_blk' {w : World} {g : Nat} {t : TypeId} {xs : List Value} (h : Blk w g t xs.toArray) (sz n : Nat) (hl : xs.length = n * sz) : Rd w sz (some ⟨g, 0, none⟩) n xs :=
  ⟨hl, fun _ => ⟨g, 0, rfl⟩, fun g' off sp e j u hu => by
    injection e with e
    injection e with e1 e2 e3
    subst e1 e2
    rw [Nat.zero_add, h.cell, List.getElem?_toArray, hu]⟩
theorem Step.out1' {w w1 w' : World} {S S' : List Nat} (h : Step [] [] w w1) (k : Step S S' w1 w') (hb : ∀ g, g ∈ S → w.heap.size ≤ g) : Step [] [] w w' :=
  ⟨k.os.trans h.os, k.tape.trans h.tape, k.output.trans h.output, Nat.le_trans h.size k.size, fun g hg _ => by
    refine (k.block g (Nat.lt_of_lt_of_le hg h.size) fun hm => ?_).trans (h.block g hg (by simp))
    have := hb g hm
    omega, fun g hg => by simp at hg⟩
end Go.Proofs.YtfkjgkgflkhbnaaDoor
