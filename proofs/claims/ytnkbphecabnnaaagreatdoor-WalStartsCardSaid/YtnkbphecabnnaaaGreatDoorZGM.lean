/-
  The model's decode against the pieces. Plain facts. Condition: a byte is there.
-/
import Derived.Test.YtnkbphecabnnaaaGreatDoorZGA
import Derived.Test.YtnkbphecabnnaaaGreatDoorZGL
import Derived.Test.YtnkbphecabnnaaaGreatDoorZNameShelf
import Derived.Lib.OthersKept
import Derived.Test.YtnkbphecabnnaaaGreatDoorTie
import Derived.Test.YtnkbphecabnnaaaGreatDoorCards
import Derived.Lib.LaidU8T
import Derived.Lay
import Derived.LaidMore
import Derived.MakeChecks
import Derived.SevenTiedAt
namespace Go.Proofs.YtnkbphecabnnaaaGreatDoor
open Go.RowKit Go.Lib
set_option linter.unusedSimpArgs false
set_option linter.unusedVariables false

def rune (r : List UInt8) : Nat × Nat := decodeN r.length (byteAt r 0) (byteAt r 1) (byteAt r 2) (byteAt r 3)

theorem byteAt_lt (r : List UInt8) (i : Nat) : byteAt r i < 256 := by
  unfold byteAt
  split
  · exact UInt8.toNat_lt _
  · omega
theorem get_byteAt (s : List UInt8) (k i : Nat) : ((ByteArray.mk s.toArray).get! (k + i)).toNat = byteAt (s.drop k) i := by
  unfold byteAt
  rw [List.getElem?_drop]
  by_cases h : k + i < s.length
  · rw [List.getElem?_eq_getElem h]
    rw [Utf8W.get!_of_lt _ _ (by simpa [ByteArray.size] using h)]
    simp only [mk_at]
    rfl
  · rw [List.getElem?_eq_none (by omega)]
    show (s.toArray[k + i]!).toNat = 0
    rw [getElem!_def, List.getElem?_toArray, List.getElem?_eq_none (by omega)]
    rfl
theorem decode_rune (s : List UInt8) (k : Nat) : Utf8.decode ⟨s.toArray⟩ k = rune (s.drop k) := by
  rw [decode_at]
  have h0 := get_byteAt s k 0
  rw [Nat.add_zero] at h0
  rw [h0, get_byteAt, get_byteAt, get_byteAt]
  unfold rune
  rw [show (ByteArray.mk s.toArray).size - k = (s.drop k).length by simp [ByteArray.size]]

section
variable (r : List UInt8) (h : 0 < r.length)
include h
theorem rune_bad (hz : sizeOf8 r = 0) : rune r = (65533, 1) := by
  rw [sizeOf8_eq] at hz
  exact decode_none _ _ _ _ _ h (byteAt_lt _ _) (byteAt_lt _ _) (byteAt_lt _ _) (byteAt_lt _ _) hz
theorem rune_width (hz : sizeOf8 r ≠ 0) : (rune r).2 = sizeOf8 r := by
  rw [sizeOf8_eq] at hz ⊢
  exact decode_some _ _ _ _ _ h (byteAt_lt _ _) (byteAt_lt _ _) (byteAt_lt _ _) (byteAt_lt _ _) hz
theorem rune_step : (rune r).2 = stepL r := by
  unfold stepL
  split
  · rw [rune_bad r h ‹_›]
  · exact rune_width r h ‹_›
theorem rune_one (hz : sizeOf8 r = 1) : (rune r).1 = (r[0]'h).toNat ∧ (r[0]'h).toNat ≤ 127 := by
  rw [sizeOf8_eq] at hz
  obtain ⟨h1, h2⟩ := decode_one _ _ _ _ _ hz
  have : byteAt r 0 = (r[0]'h).toNat := by unfold byteAt; rw [List.getElem?_eq_getElem h]
  unfold rune
  rw [h1]
  exact ⟨this, this ▸ h2⟩
theorem rune_high (hz : 1 < sizeOf8 r) : itselfB (r.take (sizeOf8 r)) = decide (161 ≤ (rune r).1) := by
  have h0 := decode_high r.length (byteAt r 0) (byteAt r 1) (byteAt r 2) (byteAt r 3) h (byteAt_lt _ _) (byteAt_lt _ _) (byteAt_lt _ _) (byteAt_lt _ _) (by rw [← sizeOf8_eq]; exact hz)
  have hw : rune r = decodeN r.length (byteAt r 0) (byteAt r 1) (byteAt r 2) (byteAt r 3) := rfl
  rw [← hw] at h0
  have hle := sz_le r
  have hs := sizeOf8_eq r
  by_cases h2 : sizeOf8 r = 2
  · rw [h2]
    match r, h, hz, h0, hle, hs, h2 with
    | [_], _, hz, _, hle, _, _ => simp at hle; omega
    | a :: b :: rest, _, _, h0, _, _, _ =>
      have e0 : byteAt (a :: b :: rest) 0 = a.toNat := rfl
      have e1 : byteAt (a :: b :: rest) 1 = b.toNat := rfl
      rw [e0, e1] at h0
      simp only [List.take_succ_cons, List.take_zero, itselfB]
      by_cases ha : a.toNat = 194
      · rw [if_pos ha, decide_eq_decide, h0]; omega
      · rw [if_neg ha]; symm; rw [decide_eq_true_eq, h0]; omega
  · have hb : ¬ (byteAt r 0 = 194 ∧ byteAt r 1 ≤ 160) := by
      intro hc
      rw [hs] at h2 hz
      unfold szN at h2 hz
      repeat' split at hz
      all_goals (try omega)
      all_goals simp_all
      all_goals omega
    rw [decide_eq_true (h0.2 hb)]
    obtain ⟨m, hm⟩ : ∃ m, sizeOf8 r = m + 3 := ⟨sizeOf8 r - 3, by omega⟩
    rw [hm] at hle ⊢
    match r, hle with
    | [], hle => simp at hle
    | [_], hle => simp at hle
    | [_, _], hle => simp at hle
    | a :: b :: c :: rest, _ => rfl
set_option maxRecDepth 100000 in
set_option maxHeartbeats 4000000 in
omit h in
theorem decode_range (n b0 b1 b2 b3 : Nat) (hn : 0 < n) (h0 : b0 < 256) (h1 : b1 < 256) (h2 : b2 < 256) (h3 : b3 < 256) (h : 1 < szN n b0 b1 b2 b3) :
    (szN n b0 b1 b2 b3 = 2 → 128 ≤ (decodeN n b0 b1 b2 b3).1 ∧ (decodeN n b0 b1 b2 b3).1 ≤ 2047) ∧
    (szN n b0 b1 b2 b3 = 3 → 2048 ≤ (decodeN n b0 b1 b2 b3).1 ∧ (decodeN n b0 b1 b2 b3).1 ≤ 65535 ∧ ¬ (55296 ≤ (decodeN n b0 b1 b2 b3).1 ∧ (decodeN n b0 b1 b2 b3).1 ≤ 57343)) ∧
    (szN n b0 b1 b2 b3 = 4 → 65536 ≤ (decodeN n b0 b1 b2 b3).1 ∧ (decodeN n b0 b1 b2 b3).1 ≤ 1114111) := by
  unfold szN at h ⊢
  unfold decodeN
  repeat' split at h
  all_goals (try (exfalso; omega))
  all_goals (repeat' split)
  all_goals first | (exfalso; omega) | (simp only []; omega) | omega
omit h in
theorem decode_len (n b0 b1 b2 b3 : Nat) (hn : 0 < n) (h0 : b0 < 256) (h1 : b1 < 256) (h2 : b2 < 256) (h3 : b3 < 256) (h : 1 < szN n b0 b1 b2 b3) : runeLen ((decodeN n b0 b1 b2 b3).1 : Int) = szN n b0 b1 b2 b3 ∧ 128 ≤ (decodeN n b0 b1 b2 b3).1 := by
  obtain ⟨r2, r3, r4⟩ := decode_range n b0 b1 b2 b3 hn h0 h1 h2 h3 h
  have hz : szN n b0 b1 b2 b3 = 2 ∨ szN n b0 b1 b2 b3 = 3 ∨ szN n b0 b1 b2 b3 = 4 := by
    unfold szN at h ⊢
    repeat' split
    all_goals (try omega)
    all_goals (repeat' split at h)
    all_goals omega
  generalize (decodeN n b0 b1 b2 b3).1 = x at *
  unfold runeLen
  rcases hz with e | e | e
  · have := r2 e
    rw [e]
    refine ⟨?_, by omega⟩
    repeat' split
    all_goals first | omega | rfl
  · have := r3 e
    rw [e]
    refine ⟨?_, by omega⟩
    repeat' split
    all_goals first | omega | rfl
  · have := r4 e
    rw [e]
    refine ⟨?_, by omega⟩
    repeat' split
    all_goals first | omega | rfl
theorem rune_len (hz : 1 < sizeOf8 r) : runeLen ((rune r).1 : Int) = sizeOf8 r ∧ 128 ≤ (rune r).1 := by
  rw [sizeOf8_eq] at hz ⊢
  exact decode_len _ _ _ _ _ h (byteAt_lt _ _) (byteAt_lt _ _) (byteAt_lt _ _) (byteAt_lt _ _) hz
theorem go_rune : decodeGo ⟨r.toArray⟩ = rune r := by
  have := decode_rune r 0
  rw [List.drop_zero] at this
  unfold decodeGo
  rw [if_neg (by show ¬ r.toArray.size = 0; simp only [List.size_toArray]; omega)]
  exact this
end
end Go.Proofs.YtnkbphecabnnaaaGreatDoor
namespace Go.Proofs.YtnkbphecabnnaaaGreatDoor
open Go.RowKit
set_option linter.unusedSimpArgs false
set_option linter.unusedVariables false

theorem drop_len_pos (s : List UInt8) (k : Nat) (h : k < s.length) : 0 < (s.drop k).length := by simp; omega
theorem take_one (s : List UInt8) (k : Nat) (h : k < s.length) : (s.drop k).take 1 = [s[k]] := by
  rw [List.drop_eq_getElem_cons h]; rfl
theorem nameC_one (f : Bool) (a : UInt8) : nameC f [a] = true ↔ (97 ≤ a.toNat ∧ a.toNat ≤ 122) ∨ (48 ≤ a.toNat ∧ a.toNat ≤ 57) ∨ a.toNat = 95 ∨ (a.toNat = 45 ∧ f = false) := by
  cases f <;> simp [nameC, or_assoc]
theorem nameC_one_ways (k : Nat) (a : UInt8) :
    (nameC (decide (k = 0)) [a] = true ∧ (((97 : Int) ≤ a.toNat ∧ (a.toNat : Int) ≤ 122) ∨ (¬ (97 : Int) ≤ a.toNat ∧ (48 : Int) ≤ a.toNat ∧ (a.toNat : Int) ≤ 57) ∨ (¬ (97 : Int) ≤ a.toNat ∧ (48 : Int) ≤ a.toNat ∧ ¬ (a.toNat : Int) ≤ 57 ∧ (a.toNat : Int) = 95) ∨
      (¬ (97 : Int) ≤ a.toNat ∧ ¬ (48 : Int) ≤ a.toNat ∧ ¬ (a.toNat : Int) = 95 ∧ (a.toNat : Int) = 45 ∧ (0 : Int) < k))) ∨
    (nameC (decide (k = 0)) [a] = false ∧ (((97 : Int) ≤ a.toNat ∧ ¬ (a.toNat : Int) ≤ 122 ∧ (48 : Int) ≤ a.toNat ∧ ¬ (a.toNat : Int) ≤ 57 ∧ ¬ (a.toNat : Int) = 95 ∧ ¬ (a.toNat : Int) = 45) ∨ (¬ (97 : Int) ≤ a.toNat ∧ (48 : Int) ≤ a.toNat ∧ ¬ (a.toNat : Int) ≤ 57 ∧ ¬ (a.toNat : Int) = 95 ∧ ¬ (a.toNat : Int) = 45) ∨
      (¬ (97 : Int) ≤ a.toNat ∧ ¬ (48 : Int) ≤ a.toNat ∧ ¬ (a.toNat : Int) = 95 ∧ ¬ (a.toNat : Int) = 45) ∨ (¬ (97 : Int) ≤ a.toNat ∧ ¬ (48 : Int) ≤ a.toNat ∧ ¬ (a.toNat : Int) = 95 ∧ (a.toNat : Int) = 45 ∧ ¬ (0 : Int) < k))) := by
  cases h : nameC (decide (k = 0)) [a] with
  | true =>
    rw [nameC_one] at h
    have : decide (k = 0) = false → (0 : Int) < k := by simp; omega
    refine .inl ⟨rfl, ?_⟩
    rcases h with h | h | h | ⟨h, h2⟩
    · exact .inl (by omega)
    · exact .inr (.inl (by omega))
    · exact .inr (.inr (.inl (by omega)))
    · have := this h2
      exact .inr (.inr (.inr (by omega)))
  | false =>
    have h' : ¬ (nameC (decide (k = 0)) [a] = true) := by rw [h]; simp
    rw [nameC_one] at h'
    simp only [decide_eq_false_iff_not] at h'
    refine .inr ⟨rfl, ?_⟩
    omega
theorem nameC_more (f : Bool) (p : List UInt8) (h : 2 ≤ p.length) : nameC f p = itselfB p := by
  match p, h with
  | a :: b :: rest, _ => rfl

end Go.Proofs.YtnkbphecabnnaaaGreatDoor
namespace Go.Proofs.YtnkbphecabnnaaaGreatDoor
open Go.RowKit Go.Lib
set_option linter.unusedSimpArgs false
set_option linter.unusedVariables false

abbrev Tabs (w : World) : Prop := Utf8Tabs 0 1 w
theorem Tabs.below {w w' : World} (h : Tabs w) (k : Below w.heap.size w w') : Tabs w' := Utf8Tabs_below h k
theorem Tabs.step {w w' : World} {S : List Nat} (h : Tabs w) (k : Step [] S w w') : Tabs w' := Utf8Tabs_below h k.below0

theorem high_any (c : Nat) (w : World) : Calls Tryz.prog 40 #[.int .i32 (c : Int)] w fun e w' => e = .returned (.bool (decide (161 ≤ c))) ∧ w = w' := by
  have hd : decide (161 ≤ c) = decide ((161 : Int) ≤ c) := by rw [decide_eq_decide]; omega
  rw [hd]
  clear hd
  go_enter Tryz.func40, Tryz.ntmps40
  go_wp2_with fail
  go_ret
  exact ⟨rfl, rfl⟩

theorem wrong_not (v v2 : Value) (c : Nat) (w : World) (h : c ≠ 65533) : Calls Tryz.prog 39 #[v, v2, .int .i32 (c : Int)] w fun e w' => e = .returned (.bool false) ∧ w = w' := by
  have h' : ((c : Int) == 65533) = false := by simp; omega
  have h'' : ((c : Int) != 65533) = true := by simp; omega
  clear h
  go_enter Tryz.func39, Tryz.ntmps39
  go_wp2_with fail
  go_ret
  exact ⟨rfl, rfl⟩
theorem wrong_err (s : List UInt8) (k : Nat) (hk : k < s.length) (w : World) (hs : s.length ≤ 1099511627776) (hT : Tabs w) :
    Calls Tryz.prog 39 #[Str s, .int .i64 (k : Int), .int .i32 65533] w fun e w' => e = .returned (.bool (((rune (s.drop k)).2 : Int) == 1)) ∧ Step [] [] w w' := by
  have hg := go_rune (s.drop k) (by simp; omega)
  have hk' : (k : Int) < s.length := by omega
  have hk2 : (k : Int) ≤ s.length := by omega
  have HT := Lib.hid hT
  clear hT
  generalize rune (s.drop k) = q at *
  have HG := Lib.hid hg
  clear hg
  go_enter Tryz.func39, Tryz.ntmps39
  go_wp2_with fail
  refine (Tryz.utf8_DecodeRuneInString ⟨(s.drop k).toArray⟩ w HT.out).mono ?_
  rintro e w1 ⟨rfl, hb⟩
  rw [HG.out]
  have HB := Lib.hid hb
  clear hb
  go_wp2_with fail
  go_ret
  exact ⟨rfl, Step.of_below HB.out⟩
theorem wrong_any (s : List UInt8) (k : Nat) (hk : k < s.length) (w : World) (hs : s.length ≤ 1099511627776) (hT : Tabs w) :
    Calls Tryz.prog 39 #[Str s, .int .i64 (k : Int), .int .i32 ((rune (s.drop k)).1 : Int)] w fun e w' => e = .returned (.bool (decide (sizeOf8 (s.drop k) = 0))) ∧ Step [] [] w w' := by
  have hp : 0 < (s.drop k).length := by simp; omega
  by_cases hc : (rune (s.drop k)).1 = 65533
  · rw [hc]
    refine (wrong_err s k hk w hs hT).mono ?_
    rintro e w' ⟨rfl, h⟩
    refine ⟨?_, h⟩
    have : (((rune (s.drop k)).2 : Int) == 1) = decide (sizeOf8 (s.drop k) = 0) := by
      by_cases h0 : sizeOf8 (s.drop k) = 0
      · rw [rune_bad _ hp h0]; simp [h0]
      · have h1 : sizeOf8 (s.drop k) ≠ 1 := by
          intro h1
          have := rune_one _ hp h1
          omega
        rw [rune_width _ hp h0]
        simp [h0]; omega
    rw [this]
  · refine (wrong_not _ _ _ w hc).mono ?_
    rintro e w' ⟨rfl, rfl⟩
    refine ⟨?_, Step.refl _ _⟩
    have : sizeOf8 (s.drop k) ≠ 0 := by
      intro h0
      rw [rune_bad _ hp h0] at hc
      exact hc rfl
    rw [decide_eq_false this]

/-- The iterator in block `b` stands at `k`. -/
def It8 (w : World) (b : Nat) (s : List UInt8) (k : Nat) : Prop := w.heap[b]? = some (.stringIter ⟨s.toArray⟩ k)
theorem It8.step {w w' : World} {b k : Nat} {s : List UInt8} {S S' : List Nat} (h : It8 w b s k) (q : Step S S' w w') (hn : b ∉ S) : It8 w' b s k :=
  (q.block b (lt_of_block h) hn).trans h
theorem It8.pos {w : World} {b k : Nat} {s : List UInt8} (h : It8 w b s k) : w.iterPos b = k := by unfold It8 at h; simp [World.iterPos, h]
theorem It8.next {w : World} {b k : Nat} {s : List UInt8} (h : It8 w b s k) (hk : k < s.length) (P : Program) (ty : TypeId) :
    (Instr.next (.pointer (some ⟨b, 0, none⟩)) true ty).run P w = .ok (.tuple #[.bool true, .int .i64 k, .int .i32 (rune (s.drop k)).1]) (w.iterAt b ⟨s.toArray⟩ (k + stepL (s.drop k))) := by
  have := run_next_any_at (P := P) w b ⟨s.toArray⟩ k ty h (by simpa [ByteArray.size] using hk)
  rw [decode_rune, rune_step _ (by simp; omega)] at this
  exact this
theorem It8.moved {w : World} {b k : Nat} {s : List UInt8} (h : It8 w b s k) (k' : Nat) : It8 (w.iterAt b ⟨s.toArray⟩ k') b s k' := iterAt_heap w b _ k k' h
theorem It8.stop {w : World} {b k : Nat} {s : List UInt8} (h : It8 w b s k) (hk : ¬ k < s.length) (P : Program) (ty : TypeId) :
    (Instr.next (.pointer (some ⟨b, 0, none⟩)) true ty).run P w = .ok (.tuple #[.bool false]) w :=
  run_next_end_at w b ⟨s.toArray⟩ k ty h (by simpa [ByteArray.size] using hk)
theorem Step.iterAt {S S' : List Nat} {w w' : World} (h : Step S S' w w') {b : Nat} (hb : b ∈ S' ∨ w.heap.size ≤ b) (s : ByteArray) (k : Nat) : Step S S' w (w'.iterAt b s k) :=
  ⟨h.os, h.tape, h.output, by rw [iterAt_size]; exact h.size, fun j hj hn => (iterAt_other w' b j s k (by
    rintro rfl
    rcases hb with hp | hp
    · rcases h.fresh _ hp with h1 | h1
      · exact hn h1
      · omega
    · omega)).trans (h.block j hj hn), h.fresh⟩

end Go.Proofs.YtnkbphecabnnaaaGreatDoor
namespace Go.Proofs.YtnkbphecabnnaaaGreatDoor
open Go.RowKit Go.Lib
set_option linter.unusedSimpArgs false
set_option linter.unusedVariables false

theorem name_ways (s : List UInt8) (k : Nat) (h : k < s.length) (c : Nat) (he : (rune (s.drop k)).1 = c) (hz : sizeOf8 (s.drop k) ≠ 0) :
  (nameC (decide (k = 0)) ((s.drop k).take (sizeOf8 (s.drop k))) = true ∧ (((97 : Int) ≤ c ∧ (c : Int) ≤ 122) ∨ (¬ (97 : Int) ≤ c ∧ (48 : Int) ≤ c ∧ (c : Int) ≤ 57) ∨ (¬ (97 : Int) ≤ c ∧ (48 : Int) ≤ c ∧ ¬ (c : Int) ≤ 57 ∧ (c : Int) = 95) ∨
   (¬ (97 : Int) ≤ c ∧ ¬ (48 : Int) ≤ c ∧ ¬ (c : Int) = 95 ∧ (c : Int) = 45 ∧ (0 : Int) < k ∧ decide (161 ≤ c) = false) ∨ ((97 : Int) ≤ c ∧ ¬ (c : Int) ≤ 122 ∧ (48 : Int) ≤ c ∧ ¬ (c : Int) ≤ 57 ∧ ¬ (c : Int) = 95 ∧ decide (161 ≤ c) = true))) ∨
  (nameC (decide (k = 0)) ((s.drop k).take (sizeOf8 (s.drop k))) = false ∧ decide (161 ≤ c) = false ∧ (((97 : Int) ≤ c ∧ ¬ (c : Int) ≤ 122 ∧ (48 : Int) ≤ c ∧ ¬ (c : Int) ≤ 57 ∧ ¬ (c : Int) = 95 ∧ ¬ (c : Int) = 45) ∨ (¬ (97 : Int) ≤ c ∧ (48 : Int) ≤ c ∧ ¬ (c : Int) ≤ 57 ∧ ¬ (c : Int) = 95 ∧ ¬ (c : Int) = 45) ∨
   (¬ (97 : Int) ≤ c ∧ ¬ (48 : Int) ≤ c ∧ ¬ (c : Int) = 95 ∧ ¬ (c : Int) = 45) ∨ (¬ (97 : Int) ≤ c ∧ ¬ (48 : Int) ≤ c ∧ ¬ (c : Int) = 95 ∧ (c : Int) = 45 ∧ ¬ (0 : Int) < k))) := by
 have hp : 0 < (s.drop k).length := by simp; omega
 by_cases h1 : sizeOf8 (s.drop k) = 1
 ·obtain ⟨h2, h3⟩ := rune_one _ hp h1
  have h4 : (s.drop k)[0]'hp = s[k] := by simp
  rw [h4] at h2 h3
  rw [he] at h2
  rw [h1, take_one s k h]
  have hd : decide (161 ≤ c) = false := by simp; omega
  rcases nameC_one_ways k s[k] with ⟨e, hw⟩ | ⟨e, hw⟩
  ·refine .inl ⟨e, ?_⟩
   rw [← h2] at hw
   simp only [hd, and_true, Bool.false_eq_true, and_false, or_false]
   omega
  ·refine .inr ⟨e, hd, ?_⟩
   rw [← h2] at hw
   exact hw
 ·have hl : 2 ≤ ((s.drop k).take (sizeOf8 (s.drop k))).length := by have := sz_le (s.drop k); simp at this ⊢; omega
  rw [nameC_more _ _ hl, rune_high _ hp (by omega), he]
  have := (rune_len _ hp (by omega)).2
  rw [he] at this
  by_cases h2 : 161 ≤ c
  ·exact .inl ⟨decide_eq_true h2, .inr (.inr (.inr (.inr ⟨by omega, by omega, by omega, by omega, by omega, decide_eq_true h2⟩)))⟩
  ·exact .inr ⟨decide_eq_false h2, decide_eq_false h2, .inl ⟨by omega, by omega, by omega, by omega, by omega, by omega⟩⟩

set_option maxRecDepth 100000 in
set_option maxHeartbeats 4000000 in
theorem right_any (s : List UInt8) (w : World) (hs : s.length ≤ 1099511627776) (hT : Tabs w) :
  Calls Tryz.prog 25 #[Str s] w fun e w' => e = .returned (.bool (rightL s)) ∧ Step [] [] w w' := by
 have HT := Lib.hid hT
 clear hT
 go_enter Tryz.func25, Tryz.ntmps25
 go_wp2_with fail
 go_loopw [3] (fun n wr => ∃ k m : Nat, k ≤ s.length ∧ m ≤ k ∧ n = .int .i64 m ∧ Hid (It8 wr w.heap.size s k ∧ rightR (decide (k = 0)) m (s.drop k) = rightL s ∧ Step [] [] w wr))
  (fun _ wr => s.length - wr.iterPos w.heap.size)
 case atStart => exact ⟨0, 0, by omega, by omega, rfl, World.iter_heap w _ 0, rfl, (Step.refl [] w).alloc _⟩
 case round =>
  obtain ⟨k, m, hk, hm, rfl, HW⟩ := hrel
  have hpos0 := HW.out.1.pos
  by_cases hlt : k < s.length
  ·have hlt' : (k : Int) < s.length := by omega
   obtain ⟨c, hce⟩ : ∃ c, (rune (s.drop k)).1 = c := ⟨_, rfl⟩
   have hnx := fun ty => HW.out.1.next hlt Tryz.prog ty
   have HX : Hid (It8 (wr.iterAt w.heap.size ⟨s.toArray⟩ (k + stepL (s.drop k))) w.heap.size s (k + stepL (s.drop k)) ∧ Step [] [] w (wr.iterAt w.heap.size ⟨s.toArray⟩ (k + stepL (s.drop k)))) := ⟨HW.out.1.moved _, HW.out.2.2.iterAt (.inr (Nat.le_refl _)) _ _⟩
   obtain ⟨W1, hW1⟩ : ∃ W1, W1 = wr.iterAt w.heap.size ⟨s.toArray⟩ (k + stepL (s.drop k)) := ⟨_, rfl⟩
   rw [← hW1] at HX hnx
   rw [hce] at hnx
   clear hW1
   have HC := Lib.hid HW.out.2.1
   have HP0 := Lib.hid hpos0
   clear HW hpos0
   have hst := stepL_le (s.drop k) (by simp; omega)
   have hst0 := stepL_pos (s.drop k)
   simp only [List.length_drop] at hst
   have HP := Lib.hid (drop_len_pos s k hlt)
   have hwr := wrong_any s k hlt W1 hs (HT.out.step HX.out.2)
   rw [hce] at hwr
   have HWR := Lib.hid hwr
   have HCE := Lib.hid hce
   clear hwr hce
   go_wp2_with fail
   refine HWR.out.mono ?_
   rintro e w3 ⟨rfl, hb⟩
   have HB := Lib.hid hb
   clear hb hnx HWR
   by_cases h0 : sizeOf8 (s.drop k) = 0
   ·have HE := Lib.hid (rightR_bad (decide (k = 0)) m _ HP.out h0)
    rw [decide_eq_true h0]
    clear h0
    go_wp2_with fail
    go_ret
    rw [← HC.out, HE.out]
    exact ⟨rfl, HX.out.2.trans HB.out⟩
   ·have hways := name_ways s k hlt c HCE.out h0
    have HE : Hid (rightR (decide (k = 0)) m (s.drop k) = (nameC (decide (k = 0)) ((s.drop k).take (sizeOf8 (s.drop k))) && rightR (decide (k + stepL (s.drop k) = 0)) (m + 1) (s.drop (k + stepL (s.drop k))))) := by
     show _ = _
     rw [rightR_ok _ m _ HP.out h0, List.drop_drop]
     unfold stepL
     rw [if_neg h0, decide_eq_false (show ¬ (k + sizeOf8 (s.drop k) = 0) by omega)]
    rw [decide_eq_false h0]
    clear h0
    rcases hways with ⟨hn, hw⟩ | ⟨hn, hd, hw⟩
    ·have HN := Lib.hid hn
     clear hn
     rcases hw with ⟨a1, a2⟩ | ⟨a1, a2, a3⟩ | ⟨a1, a2, a3, a4⟩ | ⟨a1, a2, a3, a4, a5, a6⟩ | ⟨a1, a2, a3, a4, a5, a6⟩
     all_goals try (have a7 : ((c : Int) == 45) = true := (by rw [show (c : Int) = 45 from a4]; rfl); clear a4)
     all_goals try (have a7 : ((c : Int) == 95) = true := (by rw [show (c : Int) = 95 from a4]; rfl); clear a4)
     all_goals try have H6 := Lib.hid a6
     all_goals try clear a6
     all_goals
      go_wp2_with (with_reducible refine (high_any c _).mono ?_; rintro e w4 ⟨rfl, rfl⟩; rw [H6.out])
      go_roundw
      case rel =>
       exact ⟨k + stepL (s.drop k), m + 1, by omega, by omega, by go_num, HX.out.1.step HB.out (by simp), by rw [← HC.out, HE.out, HN.out, Bool.true_and], HX.out.2.trans HB.out⟩
      case measure => rw [(HX.out.1.step HB.out (by simp)).pos, HP0.out]; omega
    ·have HN := Lib.hid hn
     have HD := Lib.hid hd
     clear hn hd
     rcases hw with ⟨a1, a2, a3, a4, a5, a6⟩ | ⟨a1, a2, a3, a4, a5⟩ | ⟨a1, a2, a3, a4⟩ | ⟨a1, a2, a3, a4, a5⟩
     all_goals try (have a7 : ((c : Int) == 45) = true := (by rw [show (c : Int) = 45 from a4]; rfl); clear a4)
     all_goals try (have a7 : ((c : Int) == 95) = true := (by rw [show (c : Int) = 95 from a4]; rfl); clear a4)
     all_goals
      go_wp2_with (with_reducible refine (high_any c _).mono ?_; rintro e w4 ⟨rfl, rfl⟩; rw [HD.out])
      go_ret
      rw [← HC.out, HE.out, HN.out, Bool.false_and]
      exact ⟨rfl, HX.out.2.trans HB.out⟩
  ·obtain rfl : k = s.length := by omega
   have hnx := fun ty => HW.out.1.stop hlt Tryz.prog ty
   have HP0 := Lib.hid hpos0
   clear hpos0
   have HE : Hid (rightR (decide (s.length = 0)) m (s.drop s.length) = (decide (1 ≤ m) && decide (m ≤ 24))) := by
    show _ = _
    rw [List.drop_length, rightR_nil]
   rcases (show (m = 0) ∨ (1 ≤ m ∧ m ≤ 24) ∨ (1 ≤ m ∧ ¬ m ≤ 24) by omega) with h | ⟨h, h2⟩ | ⟨h, h2⟩
   ·have h' : ¬ (1 : Int) ≤ m := by omega
    have H := Lib.hid h
    clear h
    go_wp2_with fail
    go_ret
    rw [← HW.out.2.1, HE.out, H.out]
    exact ⟨rfl, HW.out.2.2⟩
   ·have h' : (1 : Int) ≤ m := by omega
    have h'' : (m : Int) ≤ 24 := by omega
    have H := Lib.hid (And.intro h h2)
    clear h h2
    go_wp2_with fail
    go_ret
    rw [← HW.out.2.1, HE.out, decide_eq_true H.out.1, decide_eq_true H.out.2]
    exact ⟨rfl, HW.out.2.2⟩
   ·have h' : (1 : Int) ≤ m := by omega
    have h'' : ¬ (m : Int) ≤ 24 := by omega
    have H := Lib.hid (And.intro h h2)
    clear h h2
    go_wp2_with fail
    go_ret
    rw [← HW.out.2.1, HE.out, decide_eq_true H.out.1, decide_eq_false H.out.2]
    exact ⟨rfl, HW.out.2.2⟩
end Go.Proofs.YtnkbphecabnnaaaGreatDoor
namespace Go.Proofs.YtnkbphecabnnaaaGreatDoor
open Go.RowKit Go.Lib
set_option linter.unusedSimpArgs false
set_option linter.unusedVariables false

theorem first_eq : Rows.laid_unicode_utf8_first = firstData := by kernel_rfl
theorem accept_eq : (Rows.laid_unicode_utf8_acceptRanges : DataW Unit) = acceptData := by kernel_rfl
end Go.Proofs.YtnkbphecabnnaaaGreatDoor
