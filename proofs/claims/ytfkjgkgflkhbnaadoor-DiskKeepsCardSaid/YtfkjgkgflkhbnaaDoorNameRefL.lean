/-
  Layer 4's reference: Count, Right. Condition: texts of at most 2^40 bytes.
-/
import Derived.Test.YtfkjgkgflkhbnaaDoorNamePieces
namespace Go.Proofs.YtfkjgkgflkhbnaaDoor
open Go.RowKit
set_option linter.unusedSimpArgs false
set_option linter.unusedVariables false

theorem drop_len_pos (s : List UInt8) (k : Nat) (h : k < s.length) : 0 < (s.drop k).length := by simp; omega
theorem drop_step (s : List UInt8) (k : Nat) : (s.drop k).drop (sizeOf8 (s.drop k)) = s.drop (k + sizeOf8 (s.drop k)) := by rw [List.drop_drop]

theorem take_one (s : List UInt8) (k : Nat) (h : k < s.length) : (s.drop k).take 1 = [s[k]] := by
  rw [List.drop_eq_getElem_cons h]; rfl
theorem nameC_one (f : Bool) (a : UInt8) : nameC f [a] = true ↔ (97 ≤ a.toNat ∧ a.toNat ≤ 122) ∨ (48 ≤ a.toNat ∧ a.toNat ≤ 57) ∨ a.toNat = 95 ∨ (a.toNat = 45 ∧ f = false) := by
  cases f <;> simp [nameC, or_assoc]
theorem nameC_one_ways (k : Nat) (a : UInt8) :
    (nameC (decide (k = 0)) [a] = true ∧ (((97 : Int) ≤ a.toNat ∧ (a.toNat : Int) ≤ 122) ∨ (¬ (97 : Int) ≤ a.toNat ∧ (48 : Int) ≤ a.toNat ∧ (a.toNat : Int) ≤ 57) ∨ (¬ (97 : Int) ≤ a.toNat ∧ (48 : Int) ≤ a.toNat ∧ ¬ (a.toNat : Int) ≤ 57 ∧ (a.toNat : Int) = 95) ∨
      (¬ (97 : Int) ≤ a.toNat ∧ ¬ (48 : Int) ≤ a.toNat ∧ ¬ (a.toNat : Int) = 95 ∧ (a.toNat : Int) = 45 ∧ (0 : Int) < k))) ∨
    (nameC (decide (k = 0)) [a] = false ∧ (((97 : Int) ≤ a.toNat ∧ ¬ (a.toNat : Int) ≤ 122 ∧ (48 : Int) ≤ a.toNat ∧ ¬ (a.toNat : Int) ≤ 57 ∧ ¬ (a.toNat : Int) = 95 ∧ ¬ (a.toNat : Int) = 45) ∨ (¬ (97 : Int) ≤ a.toNat ∧ (48 : Int) ≤ a.toNat ∧ ¬ (a.toNat : Int) ≤ 57 ∧ ¬ (a.toNat : Int) = 95 ∧ ¬ (a.toNat : Int) = 45) ∨
      (¬ (97 : Int) ≤ a.toNat ∧ ¬ (48 : Int) ≤ a.toNat ∧ ¬ (a.toNat : Int) = 95 ∧ ¬ (a.toNat : Int) = 45) ∨ (¬ (97 : Int) ≤ a.toNat ∧ ¬ (48 : Int) ≤ a.toNat ∧ ¬ (a.toNat : Int) = 95 ∧ (a.toNat : Int) = 45 ∧ ¬ (0 : Int) < k))) := by
  cases h : nameC (decide (k = 0)) [a] with
  | true =>
    rw [nameC_one] at h
    have : decide (k = 0) = false → (0 : Int) < k := by simp; omega
    refine .inl ⟨rfl, ?_⟩
    rcases h with h | h | h | ⟨h, h2⟩
    · exact .inl (by omega)
    · exact .inr (.inl (by omega))
    · exact .inr (.inr (.inl (by omega)))
    · have := this h2
      exact .inr (.inr (.inr (by omega)))
  | false =>
    have h' : ¬ (nameC (decide (k = 0)) [a] = true) := by rw [h]; simp
    rw [nameC_one] at h'
    simp only [decide_eq_false_iff_not] at h'
    refine .inr ⟨rfl, ?_⟩
    omega
theorem nameC_more (f : Bool) (p : List UInt8) (h : 2 ≤ p.length) : nameC f p = itselfB p := by
  match p, h with
  | a :: b :: rest, _ => rfl

set_option maxRecDepth 100000 in
set_option maxHeartbeats 4000000 in
theorem refRight_any (s : List UInt8) (w : World) (hs : s.length ≤ 1099511627776) :
    Calls Tryd.prog 40 #[Str s] w fun e w' => e = .returned (.bool (rightL s)) ∧ w = w' := by
  go_enter Tryd.func40, Tryd.ntmps40
  go_wp2_with fail
  go_loopw [3, 4] (fun n at' wr => ∃ k m : Nat, k ≤ s.length ∧ m ≤ k ∧ m ≤ 24 ∧ n = .int .i64 m ∧ at' = .int .i64 k ∧ Hid (rightR (decide (k = 0)) m (s.drop k) = rightL s ∧ wr = w))
    (fun _ at' _ => s.length - (intOf at').toNat)
  case atStart => exact ⟨0, 0, by omega, by omega, by omega, rfl, rfl, rfl, rfl⟩
  case round =>
    obtain ⟨k, m, hk, hm, hm24, rfl, rfl, HW⟩ := hrel
    by_cases hlt : k < s.length
    · have hlt' : (k : Int) < s.length := by omega
      have hz := sz_le (s.drop k)
      simp only [List.length_drop] at hz
      have HP := Lib.hid (drop_len_pos s k hlt)
      have HD := Lib.hid (drop_step s k)
      have HF : Hid (∀ z, 0 < z → decide (k + z = 0) = false) := by intro z hz; simp; omega
      go_wp2_with fail
      refine (size_any (s.drop k) _ (by simp; omega)).mono ?_
      rintro e w1 ⟨rfl, rfl⟩
      by_cases h0 : sizeOf8 (s.drop k) = 0
      · have HB := Lib.hid (rightR_bad (decide (k = 0)) m _ HP.out h0)
        have h0' : ((sizeOf8 (s.drop k) : Int) == 0) = true := by simp [h0]
        clear h0
        go_wp2_with fail
        go_ret
        rw [← HW.out.1, HB.out]
        exact ⟨rfl, HW.out.2.symm⟩
      · have HB := Lib.hid (rightR_ok (decide (k = 0)) m _ HP.out h0)
        have HM : Hid (m = 24 → rightR false (m + 1) (s.drop (k + sizeOf8 (s.drop k))) = false) := by intro h; exact rightR_many _ _ _ (by omega)
        have hp : 0 < sizeOf8 (s.drop k) := by omega
        have h0' : ((sizeOf8 (s.drop k) : Int) == 0) = false := by simp [h0]
        clear h0
        by_cases h1 : sizeOf8 (s.drop k) = 1
        · have HT : Hid ((s.drop k).take (sizeOf8 (s.drop k)) = [s[k]]) := by show _ = _; rw [h1]; exact take_one s k hlt
          have h1' : ((sizeOf8 (s.drop k) : Int) == 1) = true := by simp [h1]
          have h1'' : ¬ (1 : Int) < sizeOf8 (s.drop k) := by omega
          clear h1
          have hw := nameC_one_ways k s[k]
          rcases hw with ⟨hc, h⟩ | ⟨hc, h⟩
          · have HC := Lib.hid hc
            clear hc
            by_cases h24 : m = 24
            · have h24' : ¬ ((m : Int) + 1 ≤ 24) := by omega
              have h24'' : (24 : Int) < (m : Int) + 1 := by omega
              have H24 := Lib.hid h24
              clear h24
              rcases h with ⟨a1, a2⟩ | ⟨a1, a2, a3⟩ | ⟨a1, a2, a3, a4⟩ | ⟨a1, a2, a3, a4, a5⟩
              all_goals
                go_wp2_with fail
                go_ret
                rw [← HW.out.1, HB.out, HD.out, HM.out H24.out, Bool.and_false]
                exact ⟨rfl, HW.out.2.symm⟩
            · have h24'' : ¬ (24 : Int) < (m : Int) + 1 := by omega
              have hmm : m + 1 ≤ 24 := by omega
              clear h24
              rcases h with ⟨a1, a2⟩ | ⟨a1, a2, a3⟩ | ⟨a1, a2, a3, a4⟩ | ⟨a1, a2, a3, a4, a5⟩
              all_goals
                go_wp2_with fail
                go_roundw
                case rel => exact ⟨k + sizeOf8 (s.drop k), m + 1, by omega, by omega, hmm, by go_num, by go_num, by rw [← HW.out.1, HB.out, HD.out, HT.out, HC.out, HF.out _ hp, Bool.true_and], HW.out.2⟩
                case measure => simp [intOf]; omega
          · have HC := Lib.hid hc
            clear hc
            rcases h with ⟨a1, a2, a3, a4, a5, a6⟩ | ⟨a1, a2, a3, a4, a5⟩ | ⟨a1, a2, a3, a4⟩ | ⟨a1, a2, a3, a4, a5⟩
            all_goals
              go_wp2_with fail
              go_ret
              rw [← HW.out.1, HB.out, HT.out, HC.out, Bool.false_and]
              exact ⟨rfl, HW.out.2.symm⟩
        · have h1' : ((sizeOf8 (s.drop k) : Int) == 1) = false := by simp; omega
          have h1'' : (1 : Int) < sizeOf8 (s.drop k) := by omega
          have HC : Hid (nameC (decide (k = 0)) ((s.drop k).take (sizeOf8 (s.drop k))) = itselfB ((s.drop k).take (sizeOf8 (s.drop k)))) := nameC_more _ _ (by simp; omega)
          clear h1
          go_wp2_with fail
          refine (itself_any ((s.drop k).take (sizeOf8 (s.drop k))) _ (by simp; omega)).mono ?_
          rintro e w1 ⟨rfl, rfl⟩
          cases hb : itselfB ((s.drop k).take (sizeOf8 (s.drop k))) with
          | false =>
            have HI := Lib.hid hb
            clear hb
            go_wp2_with fail
            go_ret
            rw [← HW.out.1, HB.out, HC.out, HI.out, Bool.false_and]
            exact ⟨rfl, HW.out.2.symm⟩
          | true =>
            have HI := Lib.hid hb
            clear hb
            by_cases h24 : m = 24
            · have h24'' : (24 : Int) < (m : Int) + 1 := by omega
              have H24 := Lib.hid h24
              clear h24
              go_wp2_with fail
              go_ret
              rw [← HW.out.1, HB.out, HD.out, HM.out H24.out, Bool.and_false]
              exact ⟨rfl, HW.out.2.symm⟩
            · have h24'' : ¬ (24 : Int) < (m : Int) + 1 := by omega
              have hmm : m + 1 ≤ 24 := by omega
              clear h24
              go_wp2_with fail
              go_roundw
              case rel => exact ⟨k + sizeOf8 (s.drop k), m + 1, by omega, by omega, hmm, by go_num, by go_num, by rw [← HW.out.1, HB.out, HD.out, HC.out, HI.out, HF.out _ hp, Bool.true_and], HW.out.2⟩
              case measure => simp [intOf]; omega
    · obtain rfl : k = s.length := by omega
      have HE : Hid (rightR (decide (s.length = 0)) m (s.drop s.length) = decide (0 < m)) := by
        show _ = _
        rw [List.drop_length, rightR_nil, decide_eq_true hm24, Bool.and_true]
        rfl
      go_wp2_with fail
      go_ret
      rw [← HW.out.1, HE.out]
      exact ⟨rfl, HW.out.2.symm⟩
end Go.Proofs.YtfkjgkgflkhbnaaDoor
