/-
  The model's decode against the pieces. Plain facts. Condition: a byte is there.
-/
import Derived.Test.YtfkjgkgflkhbnaaDoorNamePieces
import Derived.Test.YtfkjgkgflkhbnaaDoorNameShelf
import Derived.Lib.OthersKept
namespace Go.Proofs.YtfkjgkgflkhbnaaDoor
open Go.RowKit Go.Lib
set_option linter.unusedSimpArgs false
set_option linter.unusedVariables false

def rune (r : List UInt8) : Nat × Nat := decodeN r.length (byteAt r 0) (byteAt r 1) (byteAt r 2) (byteAt r 3)

theorem byteAt_lt (r : List UInt8) (i : Nat) : byteAt r i < 256 := by
  unfold byteAt
  split
  · exact UInt8.toNat_lt _
  · omega
theorem get_byteAt (s : List UInt8) (k i : Nat) : ((ByteArray.mk s.toArray).get! (k + i)).toNat = byteAt (s.drop k) i := by
  unfold byteAt
  rw [List.getElem?_drop]
  by_cases h : k + i < s.length
  · rw [List.getElem?_eq_getElem h]
    rw [Utf8W.get!_of_lt _ _ (by simpa [ByteArray.size] using h)]
    simp only [mk_at]
    rfl
  · rw [List.getElem?_eq_none (by omega)]
    show (s.toArray[k + i]!).toNat = 0
    rw [getElem!_def, List.getElem?_toArray, List.getElem?_eq_none (by omega)]
    rfl
theorem decode_rune (s : List UInt8) (k : Nat) : Utf8.decode ⟨s.toArray⟩ k = rune (s.drop k) := by
  rw [decode_at]
  have h0 := get_byteAt s k 0
  rw [Nat.add_zero] at h0
  rw [h0, get_byteAt, get_byteAt, get_byteAt]
  unfold rune
  rw [show (ByteArray.mk s.toArray).size - k = (s.drop k).length by simp [ByteArray.size]]

section
variable (r : List UInt8) (h : 0 < r.length)
include h
theorem rune_bad (hz : sizeOf8 r = 0) : rune r = (65533, 1) := by
  rw [sizeOf8_eq] at hz
  exact decode_none _ _ _ _ _ h (byteAt_lt _ _) (byteAt_lt _ _) (byteAt_lt _ _) (byteAt_lt _ _) hz
theorem rune_width (hz : sizeOf8 r ≠ 0) : (rune r).2 = sizeOf8 r := by
  rw [sizeOf8_eq] at hz ⊢
  exact decode_some _ _ _ _ _ h (byteAt_lt _ _) (byteAt_lt _ _) (byteAt_lt _ _) (byteAt_lt _ _) hz
theorem rune_step : (rune r).2 = stepL r := by
  unfold stepL
  split
  · rw [rune_bad r h ‹_›]
  · exact rune_width r h ‹_›
theorem rune_one (hz : sizeOf8 r = 1) : (rune r).1 = (r[0]'h).toNat ∧ (r[0]'h).toNat ≤ 127 := by
  rw [sizeOf8_eq] at hz
  obtain ⟨h1, h2⟩ := decode_one _ _ _ _ _ hz
  have : byteAt r 0 = (r[0]'h).toNat := by unfold byteAt; rw [List.getElem?_eq_getElem h]
  unfold rune
  rw [h1]
  exact ⟨this, this ▸ h2⟩
theorem rune_high (hz : 1 < sizeOf8 r) : itselfB (r.take (sizeOf8 r)) = decide (161 ≤ (rune r).1) := by
  have h0 := decode_high r.length (byteAt r 0) (byteAt r 1) (byteAt r 2) (byteAt r 3) h (byteAt_lt _ _) (byteAt_lt _ _) (byteAt_lt _ _) (byteAt_lt _ _) (by rw [← sizeOf8_eq]; exact hz)
  have hw : rune r = decodeN r.length (byteAt r 0) (byteAt r 1) (byteAt r 2) (byteAt r 3) := rfl
  rw [← hw] at h0
  have hle := sz_le r
  have hs := sizeOf8_eq r
  by_cases h2 : sizeOf8 r = 2
  · rw [h2]
    match r, h, hz, h0, hle, hs, h2 with
    | [_], _, hz, _, hle, _, _ => simp at hle; omega
    | a :: b :: rest, _, _, h0, _, _, _ =>
      have e0 : byteAt (a :: b :: rest) 0 = a.toNat := rfl
      have e1 : byteAt (a :: b :: rest) 1 = b.toNat := rfl
      rw [e0, e1] at h0
      simp only [List.take_succ_cons, List.take_zero, itselfB]
      by_cases ha : a.toNat = 194
      · rw [if_pos ha, decide_eq_decide, h0]; omega
      · rw [if_neg ha]; symm; rw [decide_eq_true_eq, h0]; omega
  · have hb : ¬ (byteAt r 0 = 194 ∧ byteAt r 1 ≤ 160) := by
      intro hc
      rw [hs] at h2 hz
      unfold szN at h2 hz
      repeat' split at hz
      all_goals (try omega)
      all_goals simp_all
      all_goals omega
    rw [decide_eq_true (h0.2 hb)]
    obtain ⟨m, hm⟩ : ∃ m, sizeOf8 r = m + 3 := ⟨sizeOf8 r - 3, by omega⟩
    rw [hm] at hle ⊢
    match r, hle with
    | [], hle => simp at hle
    | [_], hle => simp at hle
    | [_, _], hle => simp at hle
    | a :: b :: c :: rest, _ => rfl
set_option maxRecDepth 100000 in
set_option maxHeartbeats 4000000 in
omit h in
theorem decode_range (n b0 b1 b2 b3 : Nat) (hn : 0 < n) (h0 : b0 < 256) (h1 : b1 < 256) (h2 : b2 < 256) (h3 : b3 < 256) (h : 1 < szN n b0 b1 b2 b3) :
    (szN n b0 b1 b2 b3 = 2 → 128 ≤ (decodeN n b0 b1 b2 b3).1 ∧ (decodeN n b0 b1 b2 b3).1 ≤ 2047) ∧
    (szN n b0 b1 b2 b3 = 3 → 2048 ≤ (decodeN n b0 b1 b2 b3).1 ∧ (decodeN n b0 b1 b2 b3).1 ≤ 65535 ∧ ¬ (55296 ≤ (decodeN n b0 b1 b2 b3).1 ∧ (decodeN n b0 b1 b2 b3).1 ≤ 57343)) ∧
    (szN n b0 b1 b2 b3 = 4 → 65536 ≤ (decodeN n b0 b1 b2 b3).1 ∧ (decodeN n b0 b1 b2 b3).1 ≤ 1114111) := by
  unfold szN at h ⊢
  unfold decodeN
  repeat' split at h
  all_goals (try (exfalso; omega))
  all_goals (repeat' split)
  all_goals first | (exfalso; omega) | (simp only []; omega) | omega
omit h in
theorem decode_len (n b0 b1 b2 b3 : Nat) (hn : 0 < n) (h0 : b0 < 256) (h1 : b1 < 256) (h2 : b2 < 256) (h3 : b3 < 256) (h : 1 < szN n b0 b1 b2 b3) : runeLen ((decodeN n b0 b1 b2 b3).1 : Int) = szN n b0 b1 b2 b3 ∧ 128 ≤ (decodeN n b0 b1 b2 b3).1 := by
  obtain ⟨r2, r3, r4⟩ := decode_range n b0 b1 b2 b3 hn h0 h1 h2 h3 h
  have hz : szN n b0 b1 b2 b3 = 2 ∨ szN n b0 b1 b2 b3 = 3 ∨ szN n b0 b1 b2 b3 = 4 := by
    unfold szN at h ⊢
    repeat' split
    all_goals (try omega)
    all_goals (repeat' split at h)
    all_goals omega
  generalize (decodeN n b0 b1 b2 b3).1 = x at *
  unfold runeLen
  rcases hz with e | e | e
  · have := r2 e
    rw [e]
    refine ⟨?_, by omega⟩
    repeat' split
    all_goals first | omega | rfl
  · have := r3 e
    rw [e]
    refine ⟨?_, by omega⟩
    repeat' split
    all_goals first | omega | rfl
  · have := r4 e
    rw [e]
    refine ⟨?_, by omega⟩
    repeat' split
    all_goals first | omega | rfl
theorem rune_len (hz : 1 < sizeOf8 r) : runeLen ((rune r).1 : Int) = sizeOf8 r ∧ 128 ≤ (rune r).1 := by
  rw [sizeOf8_eq] at hz ⊢
  exact decode_len _ _ _ _ _ h (byteAt_lt _ _) (byteAt_lt _ _) (byteAt_lt _ _) (byteAt_lt _ _) hz
theorem go_rune : decodeGo ⟨r.toArray⟩ = rune r := by
  have := decode_rune r 0
  rw [List.drop_zero] at this
  unfold decodeGo
  rw [if_neg (by show ¬ r.toArray.size = 0; simp only [List.size_toArray]; omega)]
  exact this
end
end Go.Proofs.YtfkjgkgflkhbnaaDoor
