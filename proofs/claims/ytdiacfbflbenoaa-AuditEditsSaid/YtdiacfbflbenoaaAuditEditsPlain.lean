/-
  Two lists of lines that are verified with one head: where they part, two unlike texts have one digest. Plain lemmas, no condition.
-/
import Derived.Test.YtdiacfbflbenoaaAuditPlain
import Derived.Test.YtdiacfbflbenoaaPackBackPlain
namespace Go.Proofs.Ytdiacfbflbenoaa
open Go.RowKit
set_option linter.unusedSimpArgs false
set_option linter.unusedVariables false

def prevH (was : List UInt8) (l : List Ln) : Nat → List UInt8
  | 0 => was
  | i + 1 => match l[i]? with
    | some x => x.hash
    | none => []
theorem prevH_succ {was : List UInt8} {l : List Ln} {i : Nat} {x : Ln} (h : l[i]? = some x) : prevH was l (i + 1) = x.hash := by simp [prevH, h]
theorem prevH_cons (was : List UInt8) (y : Ln) (l : List Ln) (i : Nat) (hi : i ≤ l.length) : prevH was (y :: l) (i + 1) = prevH y.hash l i := by
  cases i with
  | zero => simp [prevH]
  | succ i => simp [prevH]
/-- What a verified list's lines are, behind the count 0. -/
structure Ver (was : List UInt8) (l : List Ln) : Prop where
  at_ : ∀ (i : Nat) (x : Ln), l[i]? = some x → rightLn x = true ∧ x.hash = sha (textLn ((i : Int) + 1) (prevH was l i) x)
theorem walkF_at (p : Pt) (prev : Option Int) (l : List Ln) (q : Pt) (h : walkF p prev l = (q, true)) (h0 : 0 ≤ p.count) (i : Nat) (x : Ln) (hx : l[i]? = some x) :
    rightLn x = true ∧ x.hash = sha (textLn (p.count + i + 1) (prevH p.hash l i) x) := by
  induction l generalizing p prev i with
  | nil => simp at hx
  | cons y l ih =>
    simp only [walkF] at h
    split at h
    · rename_i hc
      have hs := hc.1
      simp only [stepOk, Bool.and_eq_true, decide_eq_true_eq] at hs
      cases i with
      | zero =>
        simp at hx
        subst hx
        refine ⟨hs.1.1, ?_⟩
        rw [hs.1.2]
        simp only [nextL, afterL, prevH]
        rw [if_neg (by omega), if_neg (by omega)]
        simp
      | succ i =>
        simp at hx
        have hi : i < l.length := (List.getElem?_eq_some_iff.1 hx).1
        have := ih (stepPt p y) (some y.index) h (by simp [stepPt]; omega) i hx
        rw [prevH_cons _ _ _ _ (by omega)]
        have e : (stepPt p y).hash = y.hash := hs.1.2.symm
        rw [e] at this
        have e2 : (stepPt p y).count + (i : Int) + 1 = p.count + ((i + 1 : Nat) : Int) + 1 := by simp [stepPt]; omega
        rwa [e2] at this
    · simp at h
theorem ver_of {was : List UInt8} {l : List Ln} {e : Pt} (h : verifyL ⟨0, was⟩ l e = true) : Ver was l ∧ e = headL ⟨0, was⟩ l ∧ was.length = 32 := by
  simp only [verifyL, walkL, Bool.and_eq_true, decide_eq_true_eq] at h
  split at h
  · rename_i hb
    obtain ⟨h1, h2⟩ := h
    have hw : walkF ⟨0, was⟩ none l = ((walkF ⟨0, was⟩ none l).1, true) := by rw [← h1]
    refine ⟨⟨fun i x hx => ?_⟩, ?_, ?_⟩
    · have := walkF_at _ _ _ _ hw (by simp) i x hx
      simpa using this
    · rw [← of_decide_eq_true h2]; exact walkF_head _ _ _ _ hw
    · simp [baseOk] at hb; exact hb.2
  · simp at h
theorem prevH_len {was : List UInt8} {l : List Ln} (h : Ver was l) (hw : was.length = 32) (i : Nat) (hi : i ≤ l.length) : (prevH was l i).length = 32 := by
  cases i with
  | zero => exact hw
  | succ i =>
    obtain ⟨x, hx⟩ : ∃ x, l[i]? = some x := ⟨_, List.getElem?_eq_getElem (by omega)⟩
    rw [prevH_succ hx, (h.at_ i x hx).2]
    exact sha_len _

/-! ### a line's text -/
theorem wnum_ok (b : List UInt8) (n : Int) (h0 : 0 ≤ n) (h1 : n ≤ 1099511627776) (hb : b.length ≤ 1000) : wnum ⟨b, 0⟩ n = ⟨b ++ numB n.toNat, 0⟩ := by
  have := numB_len n.toNat (by omega)
  unfold wnum wput
  rw [if_neg (by omega), if_neg (by simp), if_neg (by simp only; omega)]
theorem wtext_ok (b s : List UInt8) (hs : s.length ≤ 1000) (hb : b.length ≤ 1000) : wtext ⟨b, 0⟩ s = ⟨b ++ (numB s.length ++ s), 0⟩ := by
  have := numB_len s.length (by omega)
  unfold wtext wput
  rw [if_neg (by simp), if_neg (by simp only [List.length_append]; omega)]
theorem line_bytes (x : Ln) (h : rightLn x = true) : (wbytes (lineWs x)).1 = numB x.index.toNat ++ (numB x.client.toNat ++ (numB x.seq.toNat ++ (numB x.user.length ++ (x.user ++ (numB x.kind.toNat ++ (numB x.err.toNat ++ (numB x.digest.length ++ x.digest))))))) := by
  simp only [rightLn, isNumL, Bool.and_eq_true, decide_eq_true_eq] at h
  obtain ⟨⟨⟨⟨⟨⟨⟨h1, h2⟩, h3⟩, h4⟩, h5⟩, h6⟩, h7⟩, h8⟩ := h
  have l1 := numB_len x.index.toNat (by omega)
  have l2 := numB_len x.client.toNat (by omega)
  have l3 := numB_len x.seq.toNat (by omega)
  have l4 := numB_len x.user.length (by omega)
  have l5 := numB_len x.kind.toNat (by omega)
  have l6 := numB_len x.err.toNat (by omega)
  unfold lineWs
  rw [wnum_ok _ _ (by omega) (by omega) (by simp), wnum_ok _ _ (by omega) (by omega) (by simp; omega), wnum_ok _ _ (by omega) (by omega) (by simp; omega), wtext_ok _ _ (by omega) (by simp; omega), wnum_ok _ _ (by omega) (by omega) (by simp; omega), wnum_ok _ _ (by omega) (by omega) (by simp; omega), wtext_ok _ _ (by omega) (by simp; omega)]
  simp [wbytes]
theorem num_split {a b : Nat} {r s : List UInt8} (h : numB a ++ r = numB b ++ s) (ha : a ≤ 4611686018427387903) (hb : b ≤ 4611686018427387903) : a = b ∧ r = s := by
  have h1 := upto_back a r 4611686018427387903 ha (by omega)
  have h2 := upto_back b s 4611686018427387903 hb (by omega)
  rw [h, h2] at h1
  injection h1 with e1 e2
  injection e2 with e3 _
  exact ⟨by omega, e3.symm⟩
theorem line_inj (x y : Ln) (hx : rightLn x = true) (hy : rightLn y = true) (h : (wbytes (lineWs x)).1 = (wbytes (lineWs y)).1) (hh : x.hash = y.hash) : x = y := by
  rw [line_bytes x hx, line_bytes y hy] at h
  simp only [rightLn, isNumL, Bool.and_eq_true, decide_eq_true_eq] at hx hy
  obtain ⟨⟨⟨⟨⟨⟨⟨a1, a2⟩, a3⟩, a4⟩, a5⟩, a6⟩, a7⟩, a8⟩ := hx
  obtain ⟨⟨⟨⟨⟨⟨⟨b1, b2⟩, b3⟩, b4⟩, b5⟩, b6⟩, b7⟩, b8⟩ := hy
  obtain ⟨e1, h⟩ := num_split h (by omega) (by omega)
  obtain ⟨e2, h⟩ := num_split h (by omega) (by omega)
  obtain ⟨e3, h⟩ := num_split h (by omega) (by omega)
  obtain ⟨e4, h⟩ := num_split h (by omega) (by omega)
  obtain ⟨e5, h⟩ := List.append_inj h e4
  obtain ⟨e6, h⟩ := num_split h (by omega) (by omega)
  obtain ⟨e7, h⟩ := num_split h (by omega) (by omega)
  obtain ⟨e8, e9⟩ := num_split h (by omega) (by omega)
  obtain ⟨x1, x2, x3, x4, x5, x6, x7, x8⟩ := x
  obtain ⟨y1, y2, y3, y4, y5, y6, y7, y8⟩ := y
  simp only at *
  subst e5 e9 hh
  obtain rfl : x1 = y1 := by omega
  obtain rfl : x2 = y2 := by omega
  obtain rfl : x3 = y3 := by omega
  obtain rfl : x5 = y5 := by omega
  obtain rfl : x6 = y6 := by omega
  rfl
theorem text_inj (n : Int) (p q : List UInt8) (x y : Ln) (hp : p.length = 32) (hq : q.length = 32) (hx : rightLn x = true) (hy : rightLn y = true) (hh : x.hash = y.hash) (h : textLn n p x = textLn n q y) : p = q ∧ x = y := by
  simp only [textLn, joined, partsL, List.flatMap_cons, List.flatMap_nil, List.append_nil, List.append_assoc] at h
  have h1 := List.append_cancel_left (List.append_cancel_left h)
  rw [hp, hq] at h1
  have h2 := List.append_cancel_left h1
  obtain ⟨e1, h3⟩ := List.append_inj h2 (by omega)
  obtain ⟨_, h4⟩ := List.append_inj h3 (by simp [len8])
  exact ⟨e1, line_inj x y hx hy h4 hh⟩
/-- The last lines of two verified lists have one hash, if their head is one. -/
theorem head_hash {was : List UInt8} {a b : List Ln} {k : Nat} {x y : Ln} (h : headL ⟨0, was⟩ a = headL ⟨0, was⟩ b) (ha : a.length = k + 1) (hb : b.length = k + 1) (hx : a[k]? = some x) (hy : b[k]? = some y) : x.hash = y.hash := by
  have e : ∀ (l : List Ln) (z : Ln), l.length = k + 1 → l[k]? = some z → (headL ⟨0, was⟩ l).hash = z.hash := by
    intro l z hl hz
    have : l.getLast? = some z := by rw [List.getLast?_eq_getElem?, hl]; simpa using hz
    simp [headL, this]
  rw [← e a x ha hx, ← e b y hb hy, h]
theorem drop_step {α : Type} {a b : List α} {i : Nat} {x : α} (hx : a[i]? = some x) (hy : b[i]? = some x) (h : a.drop (i + 1) = b.drop (i + 1)) : a.drop i = b.drop i := by
  have h1 := (List.getElem?_eq_some_iff.1 hx)
  have h2 := (List.getElem?_eq_some_iff.1 hy)
  rw [List.drop_eq_getElem_cons h1.1, List.drop_eq_getElem_cons h2.1, h, h1.2, h2.2]
end Go.Proofs.Ytdiacfbflbenoaa
