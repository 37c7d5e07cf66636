/-
  Plain laws of scripts: an event's line, its words, and reading it back. No program in sight.
-/
import Derived.Test.YtnklfcejdkpjfaaDoorOpen
import Derived.Lib.SplitLaws
namespace Go.Proofs.YtnklfcejdkpjfaaDoor
open Go.RowKit
set_option linter.unusedSimpArgs false
set_option linter.unusedVariables false

structure Ev where
  k : Int
  a : Int
  b : Int
  c : Int
  d : Int
deriving DecidableEq
def evc (x : Ev) : List Value := [.int .i64 x.k, .int .i64 x.a, .int .i64 x.b, .int .i64 x.c, .int .i64 x.d]
def Ev.ns (x : Ev) : List Int := [x.k, x.a, x.b, x.c, x.d]
def okB (n : Int) : Bool := decide (0 ≤ n) && decide (n < 256)
theorem okB_iff {n : Int} : okB n = true ↔ 0 ≤ n ∧ n < 256 := by simp [okB]
def rightE (x : Ev) : Bool := okB x.k && okB x.a && okB x.b && okB x.c && okB x.d
theorem rightE_iff {x : Ev} : rightE x = true ↔ okB x.k = true ∧ okB x.a = true ∧ okB x.b = true ∧ okB x.c = true ∧ okB x.d = true := by simp [rightE, and_assoc]
def decB (n : Nat) : List UInt8 :=
  if n < 10 then [UInt8.ofNat (48 + n)] else if n < 100 then [UInt8.ofNat (48 + n / 10), UInt8.ofNat (48 + n % 10)]
  else [UInt8.ofNat (48 + n / 100), UInt8.ofNat (48 + n / 10 % 10), UInt8.ofNat (48 + n % 10)]
def namesE : List (List UInt8) := [[110, 111, 116, 104, 105, 110, 103], [97, 115, 107], [116, 105, 99, 107], [114, 111, 117, 110, 100], [99, 111, 109, 101], [108, 111, 115, 101], [116, 119, 105, 99, 101], [99, 117, 116], [106, 111, 105, 110], [104, 101, 97, 108], [99, 114, 97, 115, 104], [115, 116, 97, 114, 116], [102, 117, 115, 101], [114, 111, 111, 109], [119, 97, 105, 116], [114, 97, 119], [104, 101, 97, 100]]
def wordK (k : Nat) : List UInt8 := (namesE[k]?).getD (decB k)
def keepE (x : Ev) : Nat := if x.d ≠ 0 then 4 else if x.c ≠ 0 then 3 else if x.b ≠ 0 then 2 else if x.a ≠ 0 then 1 else 0
def argsE (x : Ev) : List Int := [x.a, x.b, x.c, x.d].take (keepE x)
def tailB (l : List Int) : List UInt8 := l.flatMap fun n => 32 :: decB n.toNat
def lineE (x : Ev) : List UInt8 := wordK x.k.toNat ++ tailB (argsE x)
def lineC (x : Ev) : List UInt8 × Bool := if rightE x = true then (lineE x, true) else ([], false)
theorem lineC_yes {x : Ev} (h : rightE x = true) : lineC x = (lineE x, true) := if_pos h
theorem lineC_no {x : Ev} (h : ¬ rightE x = true) : lineC x = ([], false) := if_neg h
/-! ### words -/
theorem dec_words : ∀ n, n < 256 → decB n ≠ [] ∧ (32 : UInt8) ∉ decB n ∧ decB n ∉ namesE ∧ (decB n).length ≤ 3 := by decide +kernel
theorem name_words : ∀ n, n < 256 → wordK n ≠ [] ∧ (32 : UInt8) ∉ wordK n ∧ (wordK n).length ≤ 7 := by decide +kernel
theorem index_hit (w r : List UInt8) (h : (32 : UInt8) ∉ w) : Lib.index (w ++ 32 :: r) [32] = w.length := by
  induction w with
  | nil => rfl
  | cons b w ih =>
    have hb : ¬ (32 : UInt8) = b := fun e => h (by simp [e])
    have := ih (fun hm => h (by simp [hm]))
    rw [List.cons_append, Lib.index, if_neg (by simp [List.isPrefixOf, hb]), this, if_neg (by first | (simp; done) | (simp; omega))]
    simp
theorem index_miss (w : List UInt8) (h : (32 : UInt8) ∉ w) : Lib.index w [32] = -1 := by
  induction w with
  | nil => rfl
  | cons b w ih =>
    have hb : ¬ (32 : UInt8) = b := fun e => h (by simp [e])
    have := ih (fun hm => h (by simp [hm]))
    rw [Lib.index, if_neg (by simp [List.isPrefixOf, hb]), this]
    rfl
theorem split_one (w : List UInt8) (h : (32 : UInt8) ∉ w) : Lib.split w [32] = [w] := by
  unfold Lib.split
  rw [Lib.count_one, List.count_eq_zero.2 h]
  rfl
theorem split_cons (w r : List UInt8) (h : (32 : UInt8) ∉ w) : Lib.split (w ++ 32 :: r) [32] = w :: Lib.split r [32] := by
  unfold Lib.split
  rw [Lib.count_one, Lib.count_one, List.count_append, List.count_eq_zero.2 h, List.count_cons_self, Nat.zero_add, Lib.splitK, index_hit w r h, if_neg (by first | (simp; done) | (simp; omega))]
  simp
theorem split_tail (w : List UInt8) (l : List Int) (h : (32 : UInt8) ∉ w) (hl : ∀ n ∈ l, okB n = true) : Lib.split (w ++ tailB l) [32] = w :: l.map fun n => decB n.toNat := by
  induction l generalizing w with
  | nil => simp only [tailB, List.flatMap_nil, List.append_nil, List.map_nil]; exact split_one w h
  | cons n l ih =>
    have hn := okB_iff.1 (hl n (by simp))
    have hd := (dec_words n.toNat (by omega)).2.1
    have := ih (decB n.toNat) hd (fun m hm => hl m (by simp [hm]))
    simp only [tailB, List.flatMap_cons, List.cons_append, List.map_cons] at this ⊢
    rw [split_cons _ _ h, this]
def wordsE (x : Ev) : List (List UInt8) := wordK x.k.toNat :: (argsE x).map fun n => decB n.toNat
theorem args_right {x : Ev} (h : rightE x = true) : ∀ n ∈ argsE x, okB n = true := by
  obtain ⟨-, h1, h2, h3, h4⟩ := rightE_iff.1 h
  intro n hn
  have := List.mem_of_mem_take hn
  simp at this
  rcases this with rfl | rfl | rfl | rfl <;> assumption
theorem keep_le (x : Ev) : keepE x ≤ 4 := by
  unfold keepE
  repeat' split
  all_goals omega
theorem args_len (x : Ev) : (argsE x).length = keepE x := by
  have := keep_le x
  simp only [argsE, List.length_take, List.length_cons, List.length_nil]
  omega
theorem split_line {x : Ev} (h : rightE x = true) : Lib.split (lineE x) [32] = wordsE x := by
  have hk := okB_iff.1 (rightE_iff.1 h).1
  exact split_tail _ _ (name_words x.k.toNat (by omega)).2.1 (args_right h)
theorem line_len {x : Ev} (h : rightE x = true) : (lineE x).length ≤ 23 := by
  have hk := okB_iff.1 (rightE_iff.1 h).1
  have h1 := (name_words x.k.toNat (by omega)).2.2
  have h2 : ∀ l : List Int, (∀ n ∈ l, okB n = true) → (tailB l).length ≤ 4 * l.length := by
    intro l
    induction l with
    | nil => intro _; simp [tailB]
    | cons n l ih =>
      intro hl
      have hn := okB_iff.1 (hl n (by simp))
      have hd := (dec_words n.toNat (by omega)).2.2.2
      have := ih (fun m hm => hl m (by simp [hm]))
      simp only [tailB, List.flatMap_cons, List.length_append, List.length_cons] at this ⊢
      omega
  have h3 := h2 _ (args_right h)
  have h4 := args_len x
  have h5 := keep_le x
  simp only [lineE, List.length_append]
  omega
theorem line_ne {x : Ev} (h : rightE x = true) : lineE x ≠ [] := by
  have hk := okB_iff.1 (rightE_iff.1 h).1
  intro e
  simp only [lineE, List.append_eq_nil_iff] at e
  exact (name_words x.k.toNat (by omega)).1 e.1
/-! ### a word read -/
def digs : Nat → List UInt8 → Option Nat
  | acc, [] => some acc
  | acc, c :: r => if c.toNat < 48 ∨ 57 < c.toNat ∨ 255 < acc then none else digs (acc * 10 + (c.toNat - 48)) r
def numW (first : Bool) (w : List UInt8) : Option Nat := if first = true ∧ w ∈ namesE then some (namesE.idxOf w) else digs 0 w
theorem num_dec : ∀ n, n < 256 → digs 0 (decB n) = some n := by decide +kernel
theorem num_name : ∀ n, n < 256 → numW true (wordK n) = some n := by decide +kernel
theorem num_args (n : Nat) (h : n < 256) : numW false (decB n) = some n := by
  rw [numW, if_neg (by simp)]
  exact num_dec n h
/-- The words' numbers, in order. -/
def numsW : Bool → List (List UInt8) → Option (List Nat)
  | _, [] => some []
  | f, w :: r => match numW f w, numsW false r with
    | some n, some l => some (n :: l)
    | _, _ => none
theorem nums_args (l : List Int) (hl : ∀ n ∈ l, okB n = true) : numsW false (l.map fun n => decB n.toNat) = some (l.map Int.toNat) := by
  induction l with
  | nil => rfl
  | cons n l ih =>
    have hn := okB_iff.1 (hl n (by simp))
    rw [List.map_cons, numsW, num_args n.toNat (by omega), ih (fun m hm => hl m (by simp [hm]))]
    rfl
theorem nums_line {x : Ev} (h : rightE x = true) : numsW true (wordsE x) = some (x.k.toNat :: (argsE x).map Int.toNat) := by
  have hk := okB_iff.1 (rightE_iff.1 h).1
  rw [wordsE, numsW, num_name x.k.toNat (by omega), nums_args _ (args_right h)]
/-- The event of numbers: what is not there is 0. -/
def evOf (l : List Nat) : Ev := ⟨(l[0]?.getD 0 : Nat), (l[1]?.getD 0 : Nat), (l[2]?.getD 0 : Nat), (l[3]?.getD 0 : Nat), (l[4]?.getD 0 : Nat)⟩
theorem evOf_line {x : Ev} (h : rightE x = true) : evOf (x.k.toNat :: (argsE x).map Int.toNat) = x := by
  obtain ⟨h0, h1, h2, h3, h4⟩ := rightE_iff.1 h
  have h0 := okB_iff.1 h0
  have h1 := okB_iff.1 h1
  have h2 := okB_iff.1 h2
  have h3 := okB_iff.1 h3
  have h4 := okB_iff.1 h4
  obtain ⟨k, a, b, c, d⟩ := x
  simp only at h0 h1 h2 h3 h4
  unfold argsE keepE
  simp only
  split
  · simp [evOf]; omega
  · split
    · simp [evOf]; omega
    · split
      · simp [evOf]; omega
      · split
        · simp [evOf]; omega
        · simp [evOf]; omega
/-- What a text is read as. -/
def parseE (s : List UInt8) : Option Ev :=
  if 5 < (Lib.split s [32]).length then none
  else match numsW true (Lib.split s [32]) with
    | none => none
    | some l => if rightE (evOf l) = true ∧ lineE (evOf l) = s then some (evOf l) else none
theorem parse_some {s : List UInt8} {x : Ev} (h : parseE s = some x) : rightE x = true ∧ lineE x = s := by
  unfold parseE at h
  split at h
  · cases h
  · split at h
    · cases h
    · split at h
      · rename_i hq
        cases h
        exact hq
      · cases h
theorem parse_line {x : Ev} (h : rightE x = true) : parseE (lineE x) = some x := by
  unfold parseE
  rw [split_line h, if_neg (by have := args_len x; have := keep_le x; simp only [wordsE, List.length_cons, List.length_map]; omega), nums_line h]
  simp only
  rw [evOf_line h, if_pos ⟨h, rfl⟩]
theorem parse_none {s : List UInt8} (h : parseE s = none) : ¬ ∃ x : Ev, rightE x = true ∧ lineE x = s := by
  rintro ⟨x, h1, rfl⟩
  rw [parse_line h1] at h
  cases h
theorem parse_nil : parseE [] = none := by decide +kernel
/-- What Parse gives: the event (or the empty one), and whether it is one. -/
def evZ : Ev := ⟨0, 0, 0, 0, 0⟩
def parseC (s : List UInt8) : Ev × Bool := match parseE s with | some x => (x, true) | none => (evZ, false)
end Go.Proofs.YtnklfcejdkpjfaaDoor
