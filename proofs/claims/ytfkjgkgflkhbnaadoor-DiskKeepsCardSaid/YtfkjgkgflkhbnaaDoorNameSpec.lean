/-
  Runes byte by byte: the model's decode against the reference's Size. No condition.
-/
import Derived.Lib.DecodeN
namespace Go.Proofs.YtfkjgkgflkhbnaaDoor
open Go.Lib
set_option linter.unusedVariables false

/-- The reference's Size: n bytes are there, the first four are b0 .. b3. -/
def szN (n b0 b1 b2 b3 : Nat) : Nat :=
  if 0 < n ∧ b0 ≤ 127 then 1
  else if (0 < n ∧ 194 ≤ b0 ∧ b0 ≤ 223) ∧ (1 < n ∧ 128 ≤ b1 ∧ b1 ≤ 191) then 2
  else if ((1 < n ∧ 128 ≤ b1 ∧ b1 ≤ 191) ∧ (2 < n ∧ 128 ≤ b2 ∧ b2 ≤ 191)) ∧
      ((b0 = 224 ∧ 160 ≤ b1 ∧ b1 ≤ 191) ∨ (225 ≤ b0 ∧ b0 ≤ 236) ∨ (b0 = 237 ∧ 128 ≤ b1 ∧ b1 ≤ 159) ∨ (238 ≤ b0 ∧ b0 ≤ 239)) then 3
  else if ((1 < n ∧ 128 ≤ b1 ∧ b1 ≤ 191) ∧ (2 < n ∧ 128 ≤ b2 ∧ b2 ≤ 191) ∧ (3 < n ∧ 128 ≤ b3 ∧ b3 ≤ 191)) ∧
      ((b0 = 240 ∧ 144 ≤ b1 ∧ b1 ≤ 191) ∨ (241 ≤ b0 ∧ b0 ≤ 243) ∨ (b0 = 244 ∧ 128 ≤ b1 ∧ b1 ≤ 143)) then 4
  else 0

set_option maxRecDepth 100000 in
set_option maxHeartbeats 4000000 in
/-- Where no rune begins, the model's decode answers (65533, 1). -/
theorem decode_none (n b0 b1 b2 b3 : Nat) (hn : 0 < n) (h0 : b0 < 256) (h1 : b1 < 256) (h2 : b2 < 256) (h3 : b3 < 256) (h : szN n b0 b1 b2 b3 = 0) : decodeN n b0 b1 b2 b3 = (65533, 1) := by
  unfold szN at h
  unfold decodeN
  repeat' split at h
  all_goals (try (exfalso; omega))
  repeat' split
  all_goals first | rfl | (exfalso; omega)

set_option maxRecDepth 100000 in
set_option maxHeartbeats 4000000 in
/-- Where one does, it has so many bytes as Size says; and it is 65533 of one byte nowhere. -/
theorem decode_some (n b0 b1 b2 b3 : Nat) (hn : 0 < n) (h0 : b0 < 256) (h1 : b1 < 256) (h2 : b2 < 256) (h3 : b3 < 256) (h : szN n b0 b1 b2 b3 ≠ 0) : (decodeN n b0 b1 b2 b3).2 = szN n b0 b1 b2 b3 := by
  unfold szN at h ⊢
  unfold decodeN
  repeat' split at h
  all_goals (try (exfalso; omega))
  all_goals (repeat' split)
  all_goals first | rfl | (exfalso; omega)

set_option maxRecDepth 100000 in
set_option maxHeartbeats 4000000 in
/-- From A1 on, told by the bytes. -/
theorem decode_high (n b0 b1 b2 b3 : Nat) (hn : 0 < n) (h0 : b0 < 256) (h1 : b1 < 256) (h2 : b2 < 256) (h3 : b3 < 256) (h : 1 < szN n b0 b1 b2 b3) : 161 ≤ (decodeN n b0 b1 b2 b3).1 ↔ ¬ (b0 = 194 ∧ b1 ≤ 160) := by
  unfold szN at h
  unfold decodeN
  repeat' split at h
  all_goals (try (exfalso; omega))
  all_goals (repeat' split)
  all_goals (try (exfalso; omega))
  all_goals (simp only []; omega)
theorem decode_one (n b0 b1 b2 b3 : Nat) (h : szN n b0 b1 b2 b3 = 1) : decodeN n b0 b1 b2 b3 = (b0, 1) ∧ b0 ≤ 127 := by
  unfold szN at h
  split at h
  · rename_i h1
    exact ⟨by unfold decodeN; rw [if_pos (by omega)], h1.2⟩
  · repeat' split at h
    all_goals omega
end Go.Proofs.YtfkjgkgflkhbnaaDoor
