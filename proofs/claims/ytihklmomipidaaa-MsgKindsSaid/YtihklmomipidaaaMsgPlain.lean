/-
  Messages as plain Lean: flat forms, what is right, the bytes, what is read. No condition.
-/
import Derived.Test.YtihklmomipidaaaPackLaw
import Derived.Test.YtihklmomipidaaaPackOnePlain
import Derived.Test.YtihklmomipidaaaPackBackPlain
namespace Go.Proofs.Ytihklmomipidaaa
open Go.RowKit
set_option linter.unusedSimpArgs false
set_option linter.unusedVariables false

structure Ent where
  index : Int
  term : Int
  data : List UInt8
  deriving DecidableEq
structure Rw where
  kind : Int
  src : Int
  term : Int
  index : Int
  last : Int
  commit : Int
  round : Int
  yes : Bool
  es : List Ent
  data : List UInt8
  deriving DecidableEq
def rwZ : Rw := ⟨0, 0, 0, 0, 0, 0, 0, false, [], []⟩
def okN (n : Int) : Bool := decide (0 ≤ n ∧ n ≤ 1099511627776)
def isKind (k : Int) : Bool := decide (1 ≤ k ∧ k ≤ 5)
def cleanL (x : Rw) : Rw :=
  if x.kind = 1 then ⟨1, x.src, x.term, x.index, x.last, 0, 0, false, [], []⟩
  else if x.kind = 2 then ⟨2, x.src, x.term, 0, 0, 0, 0, x.yes, [], []⟩
  else if x.kind = 3 then ⟨3, x.src, x.term, x.index, x.last, x.commit, x.round, false, x.es, []⟩
  else if x.kind = 4 then ⟨4, x.src, x.term, x.index, 0, 0, x.round, x.yes, [], []⟩
  else if x.kind = 5 then ⟨5, x.src, x.term, x.index, x.last, 0, x.round, false, [], x.data⟩
  else rwZ
theorem kind_cases {k : Int} (h : isKind k = true) : k = 1 ∨ k = 2 ∨ k = 3 ∨ k = 4 ∨ k = 5 := by simp [isKind] at h; omega

def entOk (b : Int) (e : Ent) : Bool := decide (e.index = b) && okN e.term && decide (e.data.length ≤ 8192)
def esOk (b : Int) : List Ent → Bool
  | [] => true
  | e :: r => entOk b e && esOk (b + 1) r
theorem esOk_iff (b : Int) (l : List Ent) : esOk b l = true ↔ ∀ (i : Nat) (e : Ent), l[i]? = some e → entOk (b + i) e = true := by
  induction l generalizing b with
  | nil => simp [esOk]
  | cons x l ih =>
    simp only [esOk, Bool.and_eq_true, ih]
    constructor
    · rintro ⟨h1, h2⟩ i e he
      cases i with
      | zero => simp at he; subst he; simpa using h1
      | succ i => simp at he; have := h2 i e he; rwa [show b + 1 + (i : Int) = b + ((i + 1 : Nat) : Int) by omega] at this
    · intro h
      refine ⟨by simpa using h 0 x (by simp), fun i e he => ?_⟩
      have := h (i + 1) e (by simpa using he)
      rwa [show b + ((i + 1 : Nat) : Int) = b + 1 + (i : Int) by omega] at this
theorem esOk_no {b : Int} {l : List Ent} {i : Nat} {e : Ent} (h : l[i]? = some e) (hn : entOk (b + i) e = false) : esOk b l = false := by
  cases hc : esOk b l with
  | false => rfl
  | true => have := (esOk_iff b l).1 hc i e h; rw [hn] at this; cases this
def rightR (x : Rw) : Bool :=
  okN x.src && okN x.term && okN x.index && okN x.last && okN x.commit && okN x.round && decide (x.data.length ≤ 1048576) && decide (x.es.length ≤ 8) && esOk (x.index + 1) x.es

def nIt (n : Int) : It := ⟨0, n, [], false⟩
def tIt (s : List UInt8) : It := ⟨1, 0, s, false⟩
def fIt (b : Bool) : It := ⟨2, 0, [], b⟩
def entIts (l : List Ent) : List It := l.flatMap fun e => [nIt e.term, tIt e.data]
def msgIts (x : Rw) : List It :=
  [nIt x.kind, nIt x.src, nIt x.term] ++
  (if x.kind = 1 then [nIt x.index, nIt x.last]
  else if x.kind = 2 then [fIt x.yes]
  else if x.kind = 3 then [nIt x.index, nIt x.last, nIt x.commit, nIt x.round, nIt x.es.length] ++ entIts x.es
  else if x.kind = 4 then [nIt x.index, nIt x.round, fIt x.yes]
  else if x.kind = 5 then [nIt x.index, nIt x.last, nIt x.round, tIt x.data]
  else [])
/-- What a message's bytes are, if it is right. -/
def msgB (x : Rw) : List UInt8 := ((msgIts x).map itB).flatten

/-! ### reading -/
def readEs (b : Int) : Nat → RS → List Ent × RS
  | 0, st => ([], st)
  | k + 1, st => ((readEs b k st).1 ++ [⟨b + k, (upto (readEs b k st).2 1099511627776).1, (rtext (upto (readEs b k st).2 1099511627776).2 8192).1⟩], (rtext (upto (readEs b k st).2 1099511627776).2 8192).2)
def up (st : RS) : Int × RS := upto st 1099511627776
def tail1 (k f t : Int) (s : RS) : Rw × RS := (⟨k, f, t, (up s).1, (up (up s).2).1, 0, 0, false, [], []⟩, (up (up s).2).2)
def tail2 (k f t : Int) (s : RS) : Rw × RS := (⟨k, f, t, 0, 0, 0, 0, (rflag s).1, [], []⟩, (rflag s).2)
def tail3n (k f t i l c r : Int) (n : Nat) (s : RS) : Rw × RS := (⟨k, f, t, i, l, c, r, false, (readEs (i + 1) n s).1, []⟩, (readEs (i + 1) n s).2)
def tail3 (k f t : Int) (s0 : RS) : Rw × RS :=
  let s1 := (up s0).2
  let s2 := (up s1).2
  let s3 := (up s2).2
  let s4 := (up s3).2
  tail3n k f t (up s0).1 (up s1).1 (up s2).1 (up s3).1 (upto s4 8).1.toNat (upto s4 8).2
def tail4 (k f t : Int) (s : RS) : Rw × RS := (⟨k, f, t, (up s).1, 0, 0, (up (up s).2).1, (rflag (up (up s).2).2).1, [], []⟩, (rflag (up (up s).2).2).2)
def tail5 (k f t : Int) (s : RS) : Rw × RS :=
  let s1 := (up s).2
  let s2 := (up s1).2
  let s3 := (up s2).2
  (⟨k, f, t, (up s).1, (up s1).1, 0, (up s2).1, false, [], (rtext s3 1048576).1⟩, (rtext s3 1048576).2)
def readK (k f t : Int) (s : RS) : Rw × RS :=
  if k = 1 then tail1 k f t s else if k = 2 then tail2 k f t s else if k = 3 then tail3 k f t s else if k = 4 then tail4 k f t s else if k = 5 then tail5 k f t s else (⟨k, f, t, 0, 0, 0, 0, false, [], []⟩, s)
def readM (st : RS) : Rw × RS := readK (up st).1 (up (up st).2).1 (up (up (up st).2).2).1 (up (up (up st).2).2).2
def decL (s : List UInt8) : Option Rw := if isKind (readM ⟨s, false⟩).1.kind = true ∧ rend (readM ⟨s, false⟩).2 = 0 then some (readM ⟨s, false⟩).1 else none

theorem readK_kind (k f t : Int) (s : RS) : (readK k f t s).1.kind = k := by
  unfold readK
  repeat' split
  all_goals rfl
theorem rend_zero {st : RS} (h : rend st = 0) : st = ⟨[], false⟩ := by
  obtain ⟨s, b⟩ := st
  unfold rend at h
  split at h
  · simp at h
  · rename_i hn
    simp at hn
    have : s = [] := by cases s; rfl; simp at hn
    rw [hn.1, this]
theorem rend_zero' : rend ⟨[], false⟩ = 0 := by simp [rend]

/-! ### what was read is what would be written -/
theorem up_was {st : RS} {n : Int} {r : List UInt8} (h : up st = (n, ⟨r, false⟩)) : st = ⟨numB n.toNat ++ r, false⟩ ∧ okN n = true := by
  obtain ⟨h1, h2, h3, h4, h5⟩ := upto_was st _ n r h
  obtain ⟨s, b⟩ := st
  simp only at h1 h2
  exact ⟨by rw [h1, h2], by simp [okN]; omega⟩
theorem flag_was {st : RS} {b : Bool} {r : List UInt8} (h : rflag st = (b, ⟨r, false⟩)) : st = ⟨numB (if b then 1 else 0) ++ r, false⟩ := by
  unfold rflag at h
  injection h with h1 h2
  obtain ⟨g1, g2, g3, g4, g5⟩ := upto_was st 1 (upto st 1).1 r (by rw [← h2])
  obtain ⟨s, bad⟩ := st
  simp only at g1 g2
  have : (upto ⟨s, bad⟩ 1).1 = 0 ∨ (upto ⟨s, bad⟩ 1).1 = 1 := by omega
  rw [g1] at h1 g2 this ⊢
  rw [g2]
  rcases this with e | e
  · rw [e] at h1 ⊢
    simp at h1
    subst h1
    rfl
  · rw [e] at h1 ⊢
    simp at h1
    subst h1
    rfl
theorem text_was' {st : RS} {m : Int} {t r : List UInt8} (h : rtext st m = (t, ⟨r, false⟩)) : st = ⟨numB t.length ++ t ++ r, false⟩ := by
  obtain ⟨h1, h2⟩ := text_was st m t r h
  obtain ⟨s, b⟩ := st
  simp only at h1 h2
  rw [h1, h2]
theorem upto_most (st : RS) (m : Int) (hm : 0 ≤ m) : (upto st m).1 ≤ m := by
  unfold upto uptoFin
  repeat' split
  all_goals simp_all
  all_goals omega
theorem text_most (st : RS) (m : Int) (hm : 0 ≤ m) : ((rtext st m).1.length : Int) ≤ m := by
  have h1 := upto_most st m hm
  have h0 := upto_nat st m
  unfold rtext rtake
  split
  · simpa using hm
  · simp only [List.length_take]; omega
end Go.Proofs.Ytihklmomipidaaa
