/-
  Tokens: what is minted and what is read, as plain Lean. No condition.
-/
import Derived.Test.YtoabhjngcajmiaaDoorPackOnePlain
import Derived.Test.YtoabhjngcajmiaaDoorHashMac
import Derived.Test.YtoabhjngcajmiaaDoorNamePieces
namespace Go.Proofs.YtoabhjngcajmiaaDoor
open Go.RowKit
set_option linter.unusedSimpArgs false
set_option linter.unusedVariables false

theorem pieces_bytes (s : List UInt8) : s.length ≤ 4 * (pieces s).length := by
  generalize hn : s.length = n
  induction n using Nat.strongRecOn generalizing s with
  | _ n ih =>
    rcases Nat.eq_zero_or_pos n with h0 | h0
    · omega
    · have h1 := stepL_pos s
      have h2 := stepL_le s (by omega)
      have h4 := stepL_le4 s
      rw [pieces_cons s (by omega)]
      have := ih (n - stepL s) (by omega) (s.drop (stepL s)) (by simp; omega)
      simp only [List.length_cons]
      omega
theorem right_len (s : List UInt8) (h : rightL s = true) : 1 ≤ s.length ∧ s.length ≤ 96 := by
  have h2 := pieces_bytes s
  simp only [rightL, rightR, Bool.and_eq_true, decide_eq_true_eq] at h
  refine ⟨?_, by omega⟩
  rcases Nat.eq_zero_or_pos s.length with h0 | h0
  · have : s = [] := List.eq_nil_of_length_eq_zero h0
    subst this
    simp [pieces_nil] at h
  · exact h0

def bodyL (user : List UInt8) (rev : Int) : List UInt8 := numB 1 ++ (numB user.length ++ user) ++ numB rev.toNat
def mintL (secret user : List UInt8) (rev : Int) : List UInt8 :=
  if rightL user = true ∧ 1 ≤ rev ∧ rev ≤ 1099511627776 then bodyL user rev ++ (numB 32 ++ macOf secret (bodyL user rev)) else []
theorem mac_len (k s : List UInt8) : (macOf k s).length = 32 := sha_len _
theorem body_len (user : List UInt8) (rev : Int) (h : user.length ≤ 96) (h2 : rev ≤ 1099511627776) : (bodyL user rev).length ≤ 123 := by
  have h1 := numB_len 1 (by omega)
  have h3 := numB_len user.length (by omega)
  have h4 := numB_len rev.toNat (by omega)
  simp only [bodyL, List.length_append]
  omega

structure Told where
  user : List UInt8
  rev : Int
def toldL (t : List UInt8) : Told :=
  if (rnum ⟨t, false⟩).1 ≠ 1 then ⟨[], 0⟩
  else if rend (rtext (upto (rtext (rnum ⟨t, false⟩).2 96).2 1099511627776).2 32).2 ≠ 0 then ⟨[], 0⟩
  else ⟨(rtext (rnum ⟨t, false⟩).2 96).1, (upto (rtext (rnum ⟨t, false⟩).2 96).2 1099511627776).1⟩
def readL (secret t : List UInt8) : (List UInt8 × Int) × Bool :=
  if (toldL t).user = [] ∧ (toldL t).rev = 0 then (([], 0), false)
  else if mintL secret (toldL t).user (toldL t).rev = t then (((toldL t).user, (toldL t).rev), true) else (([], 0), false)
/-- The reference's. -/
def rst (t : List UInt8) : RS := (upto ⟨t, false⟩ 1).2
def refReadL (secret t : List UInt8) : (List UInt8 × Int) × Bool :=
  if (upto (rtext (rst t) 96).2 1099511627776).2.bad = false ∧ t ≠ [] ∧ mintL secret (rtext (rst t) 96).1 (upto (rtext (rst t) 96).2 1099511627776).1 = t then (((rtext (rst t) 96).1, (upto (rtext (rst t) 96).2 1099511627776).1), true) else (([], 0), false)

/-- What is minted is parsed so, whatever stands behind it. -/
theorem mint_some (secret user : List UInt8) (rev : Int) (h : mintL secret user rev ≠ []) : rightL user = true ∧ 1 ≤ rev ∧ rev ≤ 1099511627776 := by
  unfold mintL at h
  split at h
  · assumption
  · exact absurd rfl h
theorem mint_parts (secret user : List UInt8) (rev : Int) (r : List UInt8) (h : mintL secret user rev ≠ []) :
    mintL secret user rev ++ r = numB 1 ++ (numB user.length ++ user ++ (numB rev.toNat ++ (numB (macOf secret (bodyL user rev)).length ++ macOf secret (bodyL user rev) ++ r))) := by
  have hs := mint_some secret user rev h
  unfold mintL
  rw [if_pos hs, mac_len]
  simp [bodyL, List.append_assoc]
theorem parse_mint (secret user : List UInt8) (rev : Int) (r : List UInt8) (h : mintL secret user rev ≠ []) :
    rnum ⟨mintL secret user rev ++ r, false⟩ = (1, ⟨numB user.length ++ user ++ (numB rev.toNat ++ (numB (macOf secret (bodyL user rev)).length ++ macOf secret (bodyL user rev) ++ r)), false⟩) ∧
    upto ⟨mintL secret user rev ++ r, false⟩ 1 = (1, ⟨numB user.length ++ user ++ (numB rev.toNat ++ (numB (macOf secret (bodyL user rev)).length ++ macOf secret (bodyL user rev) ++ r)), false⟩) ∧
    rtext ⟨numB user.length ++ user ++ (numB rev.toNat ++ (numB (macOf secret (bodyL user rev)).length ++ macOf secret (bodyL user rev) ++ r)), false⟩ 96 = (user, ⟨numB rev.toNat ++ (numB (macOf secret (bodyL user rev)).length ++ macOf secret (bodyL user rev) ++ r), false⟩) ∧
    upto ⟨numB rev.toNat ++ (numB (macOf secret (bodyL user rev)).length ++ macOf secret (bodyL user rev) ++ r), false⟩ 1099511627776 = (rev, ⟨numB (macOf secret (bodyL user rev)).length ++ macOf secret (bodyL user rev) ++ r, false⟩) ∧
    rtext ⟨numB (macOf secret (bodyL user rev)).length ++ macOf secret (bodyL user rev) ++ r, false⟩ 32 = (macOf secret (bodyL user rev), ⟨r, false⟩) := by
  obtain ⟨h1, h2, h3⟩ := mint_some secret user rev h
  have hl := right_len user h1
  have hm := mac_len secret (bodyL user rev)
  have hr : ((rev.toNat : Nat) : Int) = rev := Int.toNat_of_nonneg (by omega)
  rw [mint_parts secret user rev r h]
  refine ⟨?_, ?_, ?_, ?_, ?_⟩
  · unfold rnum
    exact upto_back 1 _ _ (by omega) (by omega)
  · exact upto_back 1 _ _ (by omega) (by omega)
  · exact text_back user _ 96 (by omega) (by omega)
  · have := upto_back rev.toNat (numB (macOf secret (bodyL user rev)).length ++ macOf secret (bodyL user rev) ++ r) 1099511627776 (by omega) (by omega)
    rw [hr] at this
    exact this
  · exact text_back _ r 32 (by omega) (by omega)
theorem told_mint (secret user : List UInt8) (rev : Int) (h : mintL secret user rev ≠ []) : toldL (mintL secret user rev) = ⟨user, rev⟩ := by
  obtain ⟨p1, _, p2, p3, p4⟩ := parse_mint secret user rev [] h
  rw [List.append_nil] at p1
  simp only [toldL, p1, p2, p3, p4]
  simp [rend]
/-- A token with more behind it is none. -/
theorem mint_prefix (secret u v : List UInt8) (n m : Int) (r : List UInt8) (h1 : mintL secret u n ≠ []) (h2 : mintL secret v m ≠ []) (h : mintL secret u n ++ r = mintL secret v m) : r = [] := by
  obtain ⟨p1, _, p2, p3, p4⟩ := parse_mint secret u n r h1
  obtain ⟨q1, _, q2, q3, q4⟩ := parse_mint secret v m [] h2
  rw [List.append_nil] at q1
  rw [h, q1] at p1
  injection p1 with _ p1
  rw [← p1, q2] at p2
  injection p2 with _ p2
  rw [← p2, q3] at p3
  injection p3 with _ p3
  rw [← p3, q4] at p4
  injection p4 with _ p4
  injection p4 with p4 _
  exact p4.symm
theorem mint_inj (secret u v : List UInt8) (n m : Int) (h1 : mintL secret u n ≠ []) (h : mintL secret u n = mintL secret v m) : u = v ∧ n = m := by
  have e1 := told_mint secret u n h1
  rw [h, told_mint secret v m (by rw [← h]; exact h1)] at e1
  injection e1 with e1 e2
  exact ⟨e1.symm, e2.symm⟩
theorem read_mint (secret u : List UInt8) (n : Int) (h : mintL secret u n ≠ []) : readL secret (mintL secret u n) = ((u, n), true) := by
  have hs := mint_some secret u n h
  unfold readL
  rw [told_mint secret u n h]
  rw [if_neg (by intro e; have := e.2; simp only at this; omega), if_pos rfl]
theorem told_empty : toldL [] = ⟨[], 0⟩ := by
  unfold toldL
  rw [if_pos (by simp [rnum, upto])]
theorem read_yes (secret t : List UInt8) (h : (readL secret t).2 = true) : t ≠ [] ∧ mintL secret (readL secret t).1.1 (readL secret t).1.2 = t := by
  unfold readL at h ⊢
  split at h
  · simp at h
  · rename_i h0
    split at h
    · rename_i h1
      rw [if_neg h0, if_pos h1]
      refine ⟨?_, h1⟩
      rintro rfl
      exact h0 (by rw [told_empty]; exact ⟨rfl, rfl⟩)
    · simp at h
theorem read_no (secret t : List UInt8) (h : (readL secret t).2 = false) : readL secret t = (([], 0), false) := by
  unfold readL at h ⊢
  split
  · rfl
  · split
    · rename_i h0 h1
      rw [if_neg h0, if_pos h1] at h
      simp at h
    · rfl
theorem refRead_mint (secret u : List UInt8) (n : Int) (h : mintL secret u n ≠ []) : refReadL secret (mintL secret u n) = ((u, n), true) := by
  obtain ⟨_, p1, p2, p3, _⟩ := parse_mint secret u n [] h
  rw [List.append_nil] at p1
  unfold refReadL rst
  rw [p1]
  simp only [p2, p3]
  rw [if_pos (by simp [h])]
theorem read_eq (secret t : List UInt8) : readL secret t = refReadL secret t := by
  cases h : (readL secret t).2 with
  | true =>
    obtain ⟨h1, h2⟩ := read_yes secret t h
    have h3 : mintL secret (readL secret t).1.1 (readL secret t).1.2 ≠ [] := by rw [h2]; exact h1
    have h4 := refRead_mint secret _ _ h3
    have h5 := read_mint secret _ _ h3
    rw [h2] at h4 h5
    rw [h4, ← h5]
  | false =>
    rw [read_no secret t h]
    unfold refReadL
    split
    · rename_i hc
      obtain ⟨_, h2, h3⟩ := hc
      have h5 := read_mint secret _ _ (show mintL secret (rtext (rst t) 96).1 (upto (rtext (rst t) 96).2 1099511627776).1 ≠ [] by rw [h3]; exact h2)
      rw [h3] at h5
      rw [h5] at h
      simp at h
    · rfl
theorem read_cut (secret u : List UInt8) (n : Int) (k : Nat) (h : mintL secret u n ≠ []) (hk : k < (mintL secret u n).length) : (readL secret ((mintL secret u n).take k)).2 = false := by
  cases hr : (readL secret ((mintL secret u n).take k)).2 with
  | false => rfl
  | true =>
    obtain ⟨h1, h2⟩ := read_yes _ _ hr
    have h3 := mint_prefix secret _ u _ n ((mintL secret u n).drop k) (by rw [h2]; exact h1) h (by rw [h2, List.take_append_drop])
    have := congrArg List.length h3
    simp at this
    omega
theorem read_long (secret u : List UInt8) (n : Int) (c : UInt8) (h : mintL secret u n ≠ []) : (readL secret (mintL secret u n ++ [c])).2 = false := by
  cases hr : (readL secret (mintL secret u n ++ [c])).2 with
  | false => rfl
  | true =>
    obtain ⟨h1, h2⟩ := read_yes _ _ hr
    have h3 := mint_prefix secret u _ n _ [c] h (by rw [h2]; exact h1) h2.symm
    simp at h3
theorem mint_len (secret u : List UInt8) (n : Int) : (mintL secret u n).length ≤ 200 := by
  unfold mintL
  split
  · rename_i h
    have h1 := right_len u h.1
    have h2 := body_len u n (by omega) h.2.2
    have h3 := numB_len 32 (by omega)
    simp only [List.length_append, mac_len]
    omega
  · simp
end Go.Proofs.YtoabhjngcajmiaaDoor
