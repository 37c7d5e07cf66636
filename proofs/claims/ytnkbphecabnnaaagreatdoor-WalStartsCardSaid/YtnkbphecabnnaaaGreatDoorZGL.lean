/-
  Runes byte by byte: the model's decode against the reference's Size. No condition.
-/
import Derived.Test.YtnkbphecabnnaaaGreatDoorZGA
import Derived.Lib.DecodeN
import Derived.Test.YtnkbphecabnnaaaGreatDoorRows
namespace Go.Proofs.YtnkbphecabnnaaaGreatDoor
open Go.Lib
set_option linter.unusedVariables false

/-- The reference's Size: n bytes are there, the first four are b0 .. b3. -/
def szN (n b0 b1 b2 b3 : Nat) : Nat :=
  if 0 < n ∧ b0 ≤ 127 then 1
  else if (0 < n ∧ 194 ≤ b0 ∧ b0 ≤ 223) ∧ (1 < n ∧ 128 ≤ b1 ∧ b1 ≤ 191) then 2
  else if ((1 < n ∧ 128 ≤ b1 ∧ b1 ≤ 191) ∧ (2 < n ∧ 128 ≤ b2 ∧ b2 ≤ 191)) ∧
      ((b0 = 224 ∧ 160 ≤ b1 ∧ b1 ≤ 191) ∨ (225 ≤ b0 ∧ b0 ≤ 236) ∨ (b0 = 237 ∧ 128 ≤ b1 ∧ b1 ≤ 159) ∨ (238 ≤ b0 ∧ b0 ≤ 239)) then 3
  else if ((1 < n ∧ 128 ≤ b1 ∧ b1 ≤ 191) ∧ (2 < n ∧ 128 ≤ b2 ∧ b2 ≤ 191) ∧ (3 < n ∧ 128 ≤ b3 ∧ b3 ≤ 191)) ∧
      ((b0 = 240 ∧ 144 ≤ b1 ∧ b1 ≤ 191) ∨ (241 ≤ b0 ∧ b0 ≤ 243) ∨ (b0 = 244 ∧ 128 ≤ b1 ∧ b1 ≤ 143)) then 4
  else 0

set_option maxRecDepth 100000 in
set_option maxHeartbeats 4000000 in
/-- Where no rune begins, the model's decode answers (65533, 1). -/
theorem decode_none (n b0 b1 b2 b3 : Nat) (hn : 0 < n) (h0 : b0 < 256) (h1 : b1 < 256) (h2 : b2 < 256) (h3 : b3 < 256) (h : szN n b0 b1 b2 b3 = 0) : decodeN n b0 b1 b2 b3 = (65533, 1) := by
  unfold szN at h
  unfold decodeN
  repeat' split at h
  all_goals (try (exfalso; omega))
  repeat' split
  all_goals first | rfl | (exfalso; omega)

set_option maxRecDepth 100000 in
set_option maxHeartbeats 4000000 in
/-- Where one does, it has so many bytes as Size says; and it is 65533 of one byte nowhere. -/
theorem decode_some (n b0 b1 b2 b3 : Nat) (hn : 0 < n) (h0 : b0 < 256) (h1 : b1 < 256) (h2 : b2 < 256) (h3 : b3 < 256) (h : szN n b0 b1 b2 b3 ≠ 0) : (decodeN n b0 b1 b2 b3).2 = szN n b0 b1 b2 b3 := by
  unfold szN at h ⊢
  unfold decodeN
  repeat' split at h
  all_goals (try (exfalso; omega))
  all_goals (repeat' split)
  all_goals first | rfl | (exfalso; omega)

set_option maxRecDepth 100000 in
set_option maxHeartbeats 4000000 in
/-- From A1 on, told by the bytes. -/
theorem decode_high (n b0 b1 b2 b3 : Nat) (hn : 0 < n) (h0 : b0 < 256) (h1 : b1 < 256) (h2 : b2 < 256) (h3 : b3 < 256) (h : 1 < szN n b0 b1 b2 b3) : 161 ≤ (decodeN n b0 b1 b2 b3).1 ↔ ¬ (b0 = 194 ∧ b1 ≤ 160) := by
  unfold szN at h
  unfold decodeN
  repeat' split at h
  all_goals (try (exfalso; omega))
  all_goals (repeat' split)
  all_goals (try (exfalso; omega))
  all_goals (simp only []; omega)
theorem decode_one (n b0 b1 b2 b3 : Nat) (h : szN n b0 b1 b2 b3 = 1) : decodeN n b0 b1 b2 b3 = (b0, 1) ∧ b0 ≤ 127 := by
  unfold szN at h
  split at h
  · rename_i h1
    exact ⟨by unfold decodeN; rw [if_pos (by omega)], h1.2⟩
  · repeat' split at h
    all_goals omega
end Go.Proofs.YtnkbphecabnnaaaGreatDoor
namespace Go.Proofs.YtnkbphecabnnaaaGreatDoor
open Go.RowKit
set_option linter.unusedSimpArgs false
set_option linter.unusedVariables false

def inB (s : List UInt8) (at' lo hi : Nat) : Bool := match s[at']? with
  | some c => decide (lo ≤ c.toNat) && decide (c.toNat ≤ hi)
  | none => false

def tl (s : List UInt8) (at' n : Nat) : Bool := (List.range n).all (fun i => inB s (at' + i) 128 191)

end Go.Proofs.YtnkbphecabnnaaaGreatDoor
namespace Go.Proofs.YtnkbphecabnnaaaGreatDoor
open Go.RowKit
set_option linter.unusedSimpArgs false
set_option linter.unusedVariables false

def sizeOf8 (s : List UInt8) : Nat :=
  if inB s 0 0 127 = true then 1
  else if inB s 0 194 223 = true ∧ tl s 1 1 = true then 2
  else if tl s 1 2 = true ∧ ((inB s 0 224 224 = true ∧ inB s 1 160 191 = true) ∨ inB s 0 225 236 = true ∨ (inB s 0 237 237 = true ∧ inB s 1 128 159 = true) ∨ inB s 0 238 239 = true) then 3
  else if tl s 1 3 = true ∧ ((inB s 0 240 240 = true ∧ inB s 1 144 191 = true) ∨ inB s 0 241 243 = true ∨ (inB s 0 244 244 = true ∧ inB s 1 128 143 = true)) then 4
  else 0

end Go.Proofs.YtnkbphecabnnaaaGreatDoor
namespace Go.Proofs.YtnkbphecabnnaaaGreatDoor
open Go.RowKit
set_option linter.unusedSimpArgs false
set_option linter.unusedVariables false

def byteAt (s : List UInt8) (i : Nat) : Nat := match s[i]? with
  | some c => c.toNat
  | none => 0
theorem inB_iff (s : List UInt8) (i lo hi : Nat) : inB s i lo hi = true ↔ i < s.length ∧ lo ≤ byteAt s i ∧ byteAt s i ≤ hi := by
  unfold inB byteAt
  by_cases h : i < s.length
  · rw [List.getElem?_eq_getElem h]; simp [h]
  · rw [List.getElem?_eq_none (by omega)]; simp; omega
theorem tl1 (s : List UInt8) : tl s 1 1 = true ↔ inB s 1 128 191 = true := by simp [tl, List.range_succ]
theorem tl2 (s : List UInt8) : tl s 1 2 = true ↔ inB s 1 128 191 = true ∧ inB s 2 128 191 = true := by simp [tl, List.range_succ]
theorem tl3 (s : List UInt8) : tl s 1 3 = true ↔ inB s 1 128 191 = true ∧ inB s 2 128 191 = true ∧ inB s 3 128 191 = true := by simp [tl, List.range_succ, and_assoc]
theorem sizeOf8_eq (s : List UInt8) : sizeOf8 s = szN s.length (byteAt s 0) (byteAt s 1) (byteAt s 2) (byteAt s 3) := by
  unfold sizeOf8 szN
  simp only [tl1, tl2, tl3, inB_iff]
  repeat' split
  all_goals first | rfl | (exfalso; omega)
end Go.Proofs.YtnkbphecabnnaaaGreatDoor
namespace Go.Proofs.YtnkbphecabnnaaaGreatDoor
open Go.RowKit
set_option linter.unusedSimpArgs false
set_option linter.unusedVariables false

def itselfB : List UInt8 → Bool
  | [] => false
  | [a] => decide (32 ≤ a.toNat ∧ a.toNat ≤ 126 ∧ a.toNat ≠ 92)
  | [a, b] => if a.toNat = 194 then decide (161 ≤ b.toNat) else true
  | _ :: _ :: _ :: _ => true

end Go.Proofs.YtnkbphecabnnaaaGreatDoor
namespace Go.Proofs.YtnkbphecabnnaaaGreatDoor
open Go.RowKit
set_option linter.unusedSimpArgs false
set_option linter.unusedVariables false

theorem sz_le (r : List UInt8) : sizeOf8 r ≤ r.length := by
  rw [sizeOf8_eq]; unfold szN
  repeat' split
  all_goals omega
def stepL (r : List UInt8) : Nat := if sizeOf8 r = 0 then 1 else sizeOf8 r
theorem stepL_pos (r : List UInt8) : 1 ≤ stepL r := by unfold stepL; split <;> omega
theorem stepL_le (r : List UInt8) (h : 0 < r.length) : stepL r ≤ r.length := by
  have := sz_le r
  unfold stepL; split <;> omega
/-- The pieces: the bytes of each, and whether they are a rune. -/
def piecesF : Nat → List UInt8 → List (List UInt8 × Bool)
  | 0, _ => []
  | n + 1, r => if r.length = 0 then [] else (r.take (stepL r), decide (sizeOf8 r ≠ 0)) :: piecesF n (r.drop (stepL r))
def pieces (r : List UInt8) : List (List UInt8 × Bool) := piecesF r.length r
theorem piecesF_enough (n : Nat) (r : List UInt8) (h : r.length ≤ n) : piecesF n r = pieces r := by
  induction n using Nat.strongRecOn generalizing r with
  | _ n ih =>
    unfold pieces
    cases n with
    | zero =>
      have : r.length = 0 := by omega
      rw [this]
    | succ n =>
      cases hr : r.length with
      | zero => simp [piecesF, hr]
      | succ m =>
        have h1 := stepL_pos r
        have h2 := stepL_le r (by omega)
        have hl : (r.drop (stepL r)).length = r.length - stepL r := by simp
        simp only [piecesF]
        rw [if_neg (by omega), if_neg (by omega), ih n (by omega) _ (by omega)]
        congr 1
        rcases Nat.lt_or_ge m n with hmn | hmn
        · rw [ih m (by omega) _ (by omega)]
        · have : m = n := by omega
          subst this
          rw [ih m (by omega) _ (by omega)]
theorem pieces_cons (r : List UInt8) (h : 0 < r.length) : pieces r = (r.take (stepL r), decide (sizeOf8 r ≠ 0)) :: pieces (r.drop (stepL r)) := by
  have h1 := stepL_pos r
  have h2 := stepL_le r h
  conv => lhs; unfold pieces
  obtain ⟨n, hn⟩ : ∃ n, r.length = n + 1 := ⟨r.length - 1, by omega⟩
  rw [hn]
  simp only [piecesF]
  rw [if_neg (by omega), piecesF_enough n _ (by simp; omega)]
theorem pieces_ok (r : List UInt8) (h : 0 < r.length) (hk : sizeOf8 r ≠ 0) : pieces r = (r.take (sizeOf8 r), true) :: pieces (r.drop (sizeOf8 r)) := by
  rw [pieces_cons r h]
  simp [stepL, hk]
theorem pieces_bad (r : List UInt8) (h : 0 < r.length) (hk : sizeOf8 r = 0) : pieces r = (r.take 1, false) :: pieces (r.drop 1) := by
  rw [pieces_cons r h]
  simp [stepL, hk]

/-! ### Right -/
def nameC (first : Bool) (p : List UInt8) : Bool := match p with
  | [a] => decide (97 ≤ a.toNat ∧ a.toNat ≤ 122) || decide (48 ≤ a.toNat ∧ a.toNat ≤ 57) || decide (a.toNat = 95) || (decide (a.toNat = 45) && !first)
  | _ => itselfB p
def rightP : Bool → List (List UInt8 × Bool) → Bool
  | _, [] => true
  | f, (p, ok) :: l => ok && nameC f p && rightP false l
/-- n pieces are behind, r is ahead. -/
def rightR (f : Bool) (n : Nat) (r : List UInt8) : Bool := rightP f (pieces r) && decide (1 ≤ n + (pieces r).length) && decide (n + (pieces r).length ≤ 24)
def rightL (s : List UInt8) : Bool := rightR true 0 s
theorem rightR_nil (f : Bool) (n : Nat) : rightR f n [] = (decide (1 ≤ n) && decide (n ≤ 24)) := rfl
theorem rightR_ok (f : Bool) (n : Nat) (r : List UInt8) (h : 0 < r.length) (hk : sizeOf8 r ≠ 0) : rightR f n r = (nameC f (r.take (sizeOf8 r)) && rightR false (n + 1) (r.drop (sizeOf8 r))) := by
  simp only [rightR, pieces_ok r h hk, rightP, List.length_cons, Bool.true_and, Bool.and_assoc]
  rw [show n + ((pieces (r.drop (sizeOf8 r))).length + 1) = n + 1 + (pieces (r.drop (sizeOf8 r))).length by omega]
theorem rightR_bad (f : Bool) (n : Nat) (r : List UInt8) (h : 0 < r.length) (hk : sizeOf8 r = 0) : rightR f n r = false := by
  simp [rightR, pieces_bad r h hk, rightP]
/-! ### Count -/
/-! ### Plain -/
end Go.Proofs.YtnkbphecabnnaaaGreatDoor
