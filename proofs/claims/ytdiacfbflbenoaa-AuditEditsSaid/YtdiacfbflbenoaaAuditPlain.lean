/-
  Chains of lines, as plain Lean: what is added, cut, verified. No condition.
-/
import Derived.Test.YtdiacfbflbenoaaHashJoin
import Derived.Test.YtdiacfbflbenoaaPackW2
namespace Go.Proofs.Ytdiacfbflbenoaa
open Go.RowKit
set_option linter.unusedSimpArgs false
set_option linter.unusedVariables false

structure Ln where
  index : Int
  client : Int
  seq : Int
  user : List UInt8
  kind : Int
  err : Int
  digest : List UInt8
  hash : List UInt8
  deriving DecidableEq
structure Pt where
  count : Int
  hash : List UInt8
  deriving DecidableEq
structure Ch where
  base : Pt
  ls : List Ln

def isNumL (n : Int) : Bool := decide (0 ≤ n ∧ n ≤ 1099511627776)
def rightLn (l : Ln) : Bool := decide (1 ≤ l.index) && isNumL l.index && isNumL l.client && isNumL l.seq && isNumL l.kind && decide (0 ≤ l.err ∧ l.err ≤ 255) && decide (l.user.length ≤ 96) && decide (l.digest.length = 32)
def lineWs (l : Ln) : WS := wtext (wnum (wnum (wtext (wnum (wnum (wnum ⟨[], 0⟩ l.index) l.client) l.seq) l.user) l.kind) l.err) l.digest
def partsL (n : Int) (was : List UInt8) (l : Ln) : List (List UInt8) := [(wbytes (wnum ⟨[], 0⟩ n)).1, was, (wbytes (lineWs l)).1]
def textLn (n : Int) (was : List UInt8) (l : Ln) : List UInt8 := joined (partsL n was l)
def afterL (c : Int) : Int := if c < 0 then -1 else if 4611686018427387904 ≤ c + 1 then 4611686018427387904 else c + 1
def nextL (c : Int) (was : List UInt8) (l : Ln) : List UInt8 := sha (textLn (afterL c) was l)
theorem next_len (c : Int) (was : List UInt8) (l : Ln) : (nextL c was l).length = 32 := sha_len _
theorem next_hash (c : Int) (was : List UInt8) (l : Ln) (h : List UInt8) : nextL c was { l with hash := h } = nextL c was l := rfl

def stepOk (p : Pt) (l : Ln) : Bool := rightLn l && decide (l.hash = nextL p.count p.hash l) && decide (p.count < 1099511627776)
def stepPt (p : Pt) (l : Ln) : Pt := ⟨p.count + 1, nextL p.count p.hash l⟩
/-- The point behind lines; `prev`: the index ahead of them, if there is one. -/
def walkF (p : Pt) (prev : Option Int) : List Ln → Pt × Bool
  | [] => (p, true)
  | x :: r => if stepOk p x = true ∧ (∀ i, prev = some i → i < x.index) then walkF (stepPt p x) (some x.index) r else (p, false)
def baseOk (p : Pt) : Bool := isNumL p.count && decide (p.hash.length = 32)
def walkL (p : Pt) (l : List Ln) : Pt × Bool := if baseOk p = true then walkF p none l else (p, false)
def lastI (l : List Ln) : Option Int := l.getLast?.map (·.index)
def headL (b : Pt) (l : List Ln) : Pt := match l.getLast? with
  | some x => ⟨b.count + l.length, x.hash⟩
  | none => b
theorem headL_nil (b : Pt) : headL b [] = b := rfl
theorem headL_snoc (b : Pt) (l : List Ln) (x : Ln) : headL b (l ++ [x]) = ⟨b.count + l.length + 1, x.hash⟩ := by
  simp [headL]; omega
theorem headL_count (b : Pt) (l : List Ln) : (headL b l).count = b.count + l.length := by
  unfold headL
  split
  · rfl
  · rename_i h
    have : l = [] := by simpa using h
    subst this
    simp

theorem walkF_append (p : Pt) (prev : Option Int) (l m : List Ln) (q : Pt) (h : walkF p prev l = (q, true)) : walkF p prev (l ++ m) = walkF q (match l.getLast? with | some x => some x.index | none => prev) m := by
  induction l generalizing p prev with
  | nil => simp [walkF] at h; subst h; rfl
  | cons x l ih =>
    simp only [walkF, List.cons_append] at h ⊢
    split at h
    · rename_i hc
      rw [if_pos hc, ih _ _ h]
      cases l with
      | nil => rfl
      | cons y l =>
        obtain ⟨z, hz⟩ : ∃ z, (y :: l).getLast? = some z := ⟨_, List.getLast?_eq_some_getLast (by simp)⟩
        simp only [List.getLast?_cons_cons, hz]
    · simp at h
theorem walkF_take (p : Pt) (prev : Option Int) (l m : List Ln) (q : Pt) (h : walkF p prev (l ++ m) = (q, true)) : ∃ r, walkF p prev l = (r, true) := by
  induction l generalizing p prev with
  | nil => exact ⟨p, rfl⟩
  | cons x l ih =>
    simp only [walkF, List.cons_append] at h ⊢
    split at h
    · rename_i hc
      rw [if_pos hc]
      exact ih _ _ h
    · simp at h
theorem walkF_head (p : Pt) (prev : Option Int) (l : List Ln) (q : Pt) (h : walkF p prev l = (q, true)) : q = headL p l := by
  induction l generalizing p prev with
  | nil => simp [walkF] at h; exact h.symm
  | cons x l ih =>
    simp only [walkF] at h
    split at h
    · rename_i hc
      have := ih _ _ h
      rw [this]
      have hx : x.hash = nextL p.count p.hash x := by
        have := hc.1
        simp [stepOk] at this
        exact this.1.2
      cases l with
      | nil => simp [headL, stepPt, hx]
      | cons y l => simp only [headL, List.getLast?_cons_cons]; split <;> simp_all [stepPt] <;> omega
    · simp at h
theorem walkF_one (p : Pt) (prev : Option Int) (x : Ln) (h : stepOk p x = true) (h2 : ∀ i, prev = some i → i < x.index) : walkF p prev [x] = (stepPt p x, true) := by
  unfold walkF
  rw [if_pos ⟨h, h2⟩]
  rfl
theorem walkF_one_inv (p : Pt) (prev : Option Int) (x : Ln) (q : Pt) (h : walkF p prev [x] = (q, true)) : stepOk p x = true := by
  unfold walkF at h
  by_cases hc : stepOk p x = true ∧ (∀ i, prev = some i → i < x.index)
  · exact hc.1
  · rw [if_neg hc] at h
    simp at h
theorem walkF_weak (p : Pt) (i : Option Int) (l : List Ln) (q : Pt) (h : walkF p i l = (q, true)) : walkF p none l = (q, true) := by
  cases l with
  | nil => exact h
  | cons x l =>
    simp only [walkF] at h ⊢
    split at h
    · rename_i hc
      rw [if_pos ⟨hc.1, by simp⟩]
      exact h
    · simp at h

/-! ### Add, Cut -/
def canAdd (c : Ch) (l : Ln) : Bool := rightLn l && decide ((headL c.base c.ls).count < 1099511627776) && decide (∀ i, lastI c.ls = some i → i < l.index)
def addedL (c : Ch) (l : Ln) : Ln := { l with hash := nextL (headL c.base c.ls).count (headL c.base c.ls).hash l }
def addL (c : Ch) (l : Ln) : Ch := if canAdd c l = true then ⟨c.base, c.ls ++ [addedL c l]⟩ else c
def canCut (c : Ch) (n : Int) : Bool := decide (c.base.count ≤ n ∧ n ≤ c.base.count + c.ls.length)
def cutL (c : Ch) (n : Int) : Ch := if canCut c n = true then ⟨headL c.base (c.ls.take (n - c.base.count).toNat), c.ls.drop (n - c.base.count).toNat⟩ else c

/-- What is so of each chain. -/
structure Inv (c : Ch) : Prop where
  base : baseOk c.base = true
  walk : walkF c.base none c.ls = (headL c.base c.ls, true)
  most : (headL c.base c.ls).count ≤ 1099511627776
theorem Inv.new : Inv ⟨⟨0, List.replicate 32 0⟩, []⟩ := ⟨by decide, rfl, by simp [headL]⟩
theorem rightLn_hash (l : Ln) (h : List UInt8) : rightLn { l with hash := h } = rightLn l := rfl
theorem Inv.add {c : Ch} (h : Inv c) (l : Ln) : Inv (addL c l) := by
  unfold addL
  split
  · rename_i hc
    simp only [canAdd, Bool.and_eq_true, decide_eq_true_eq] at hc
    refine ⟨h.base, ?_, ?_⟩
    · simp only
      rw [walkF_append _ _ _ _ _ h.walk, headL_snoc]
      have h1 : stepOk (headL c.base c.ls) (addedL c l) = true := by
        simp only [stepOk, Bool.and_eq_true, decide_eq_true_eq]
        exact ⟨⟨hc.1.1, rfl⟩, hc.1.2⟩
      rw [walkF_one _ _ _ h1 (fun i hi => ?_)]
      · have e : stepPt (headL c.base c.ls) (addedL c l) = ⟨c.base.count + c.ls.length + 1, (addedL c l).hash⟩ := by
          simp only [stepPt]
          rw [show nextL (headL c.base c.ls).count (headL c.base c.ls).hash (addedL c l) = (addedL c l).hash from rfl, headL_count]
        rw [e]
      · refine hc.2 i ?_
        unfold lastI
        cases hg : c.ls.getLast? with
        | none => rw [hg] at hi; simp at hi
        | some x => rw [hg] at hi; simpa using hi
    · simp only
      rw [headL_snoc]
      have := hc.1.2
      rw [headL_count] at this
      simp only
      omega
  · exact h
theorem Inv.cut {c : Ch} (h : Inv c) (n : Int) : Inv (cutL c n) := by
  unfold cutL
  split
  · rename_i hc
    simp only [canCut, decide_eq_true_eq] at hc
    obtain ⟨k, hk⟩ : ∃ k, (n - c.base.count).toNat = k := ⟨_, rfl⟩
    have hkl : k ≤ c.ls.length := by omega
    rw [hk]
    have hw := h.walk
    rw [← List.take_append_drop k c.ls] at hw
    obtain ⟨r, hr⟩ := walkF_take _ _ _ _ _ hw
    have hrh := walkF_head _ _ _ _ hr
    rw [walkF_append _ _ _ _ _ hr] at hw
    have hw2 := walkF_weak _ _ _ _ hw
    rw [hrh] at hw2
    have hq := walkF_head _ _ _ _ hw2
    have hcnt : (headL c.base (c.ls.take k)).count = c.base.count + k := by rw [headL_count, List.length_take, Nat.min_eq_left hkl]
    have hm := h.most
    rw [headL_count] at hm
    refine ⟨?_, ?_, ?_⟩
    · have hb := h.base
      simp only [baseOk, isNumL, Bool.and_eq_true, decide_eq_true_eq] at hb ⊢
      refine ⟨by rw [hcnt]; omega, ?_⟩
      cases hg : (c.ls.take k).getLast? with
      | none => simp only [headL, hg]; exact hb.2
      | some x =>
        simp only [headL, hg]
        have hne : c.ls.take k ≠ [] := by intro e; rw [e] at hg; simp at hg
        obtain ⟨ys, hys⟩ : ∃ ys, c.ls.take k = ys ++ [x] := ⟨(c.ls.take k).dropLast, by
          have := List.dropLast_concat_getLast hne
          rw [List.getLast?_eq_some_getLast hne] at hg
          injection hg with hg
          rw [hg] at this
          exact this.symm⟩
        rw [hys] at hr
        obtain ⟨r', hr'⟩ := walkF_take _ _ _ _ _ hr
        rw [walkF_append _ _ _ _ _ hr'] at hr
        have hs := walkF_one_inv _ _ _ _ hr
        simp [stepOk] at hs
        rw [hs.1.2]
        exact next_len _ _ _
    · rw [hw2, ← hq]
    · simp only
      rw [headL_count, hcnt, List.length_drop]
      omega
  · exact h
def verifyL (b : Pt) (l : List Ln) (e : Pt) : Bool := (walkL b l).2 && decide ((walkL b l).1 = e)
theorem Inv.verify {c : Ch} (h : Inv c) : verifyL c.base c.ls (headL c.base c.ls) = true := by
  simp [verifyL, walkL, h.base, h.walk]
theorem Inv.verify1 {c : Ch} (h : Inv c) : verifyL c.base c.ls ⟨(headL c.base c.ls).count + 1, (headL c.base c.ls).hash⟩ = false := by
  simp only [verifyL, walkL, h.base, h.walk, if_true, Bool.true_and, decide_eq_false_iff_not]
  intro e
  have := congrArg Pt.count e
  simp only at this
  omega
end Go.Proofs.Ytdiacfbflbenoaa
