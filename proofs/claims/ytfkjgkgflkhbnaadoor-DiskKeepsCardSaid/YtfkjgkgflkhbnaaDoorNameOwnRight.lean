/-
  name.Right. Conditions: texts of at most 2^40 bytes; utf8's tables as Go lays them.
-/
import Derived.Test.YtfkjgkgflkhbnaaDoorNameOwn
namespace Go.Proofs.YtfkjgkgflkhbnaaDoor
open Go.RowKit Go.Lib
set_option linter.unusedSimpArgs false
set_option linter.unusedVariables false

theorem name_ways (s : List UInt8) (k : Nat) (h : k < s.length) (c : Nat) (he : (rune (s.drop k)).1 = c) (hz : sizeOf8 (s.drop k) ≠ 0) :
    (nameC (decide (k = 0)) ((s.drop k).take (sizeOf8 (s.drop k))) = true ∧ (((97 : Int) ≤ c ∧ (c : Int) ≤ 122) ∨ (¬ (97 : Int) ≤ c ∧ (48 : Int) ≤ c ∧ (c : Int) ≤ 57) ∨ (¬ (97 : Int) ≤ c ∧ (48 : Int) ≤ c ∧ ¬ (c : Int) ≤ 57 ∧ (c : Int) = 95) ∨
      (¬ (97 : Int) ≤ c ∧ ¬ (48 : Int) ≤ c ∧ ¬ (c : Int) = 95 ∧ (c : Int) = 45 ∧ (0 : Int) < k ∧ decide (161 ≤ c) = false) ∨ ((97 : Int) ≤ c ∧ ¬ (c : Int) ≤ 122 ∧ (48 : Int) ≤ c ∧ ¬ (c : Int) ≤ 57 ∧ ¬ (c : Int) = 95 ∧ decide (161 ≤ c) = true))) ∨
    (nameC (decide (k = 0)) ((s.drop k).take (sizeOf8 (s.drop k))) = false ∧ decide (161 ≤ c) = false ∧ (((97 : Int) ≤ c ∧ ¬ (c : Int) ≤ 122 ∧ (48 : Int) ≤ c ∧ ¬ (c : Int) ≤ 57 ∧ ¬ (c : Int) = 95 ∧ ¬ (c : Int) = 45) ∨ (¬ (97 : Int) ≤ c ∧ (48 : Int) ≤ c ∧ ¬ (c : Int) ≤ 57 ∧ ¬ (c : Int) = 95 ∧ ¬ (c : Int) = 45) ∨
      (¬ (97 : Int) ≤ c ∧ ¬ (48 : Int) ≤ c ∧ ¬ (c : Int) = 95 ∧ ¬ (c : Int) = 45) ∨ (¬ (97 : Int) ≤ c ∧ ¬ (48 : Int) ≤ c ∧ ¬ (c : Int) = 95 ∧ (c : Int) = 45 ∧ ¬ (0 : Int) < k))) := by
  have hp : 0 < (s.drop k).length := by simp; omega
  by_cases h1 : sizeOf8 (s.drop k) = 1
  · obtain ⟨h2, h3⟩ := rune_one _ hp h1
    have h4 : (s.drop k)[0]'hp = s[k] := by simp
    rw [h4] at h2 h3
    rw [he] at h2
    rw [h1, take_one s k h]
    have hd : decide (161 ≤ c) = false := by simp; omega
    rcases nameC_one_ways k s[k] with ⟨e, hw⟩ | ⟨e, hw⟩
    · refine .inl ⟨e, ?_⟩
      rw [← h2] at hw
      simp only [hd, and_true, Bool.false_eq_true, and_false, or_false]
      omega
    · refine .inr ⟨e, hd, ?_⟩
      rw [← h2] at hw
      exact hw
  · have hl : 2 ≤ ((s.drop k).take (sizeOf8 (s.drop k))).length := by have := sz_le (s.drop k); simp at this ⊢; omega
    rw [nameC_more _ _ hl, rune_high _ hp (by omega), he]
    have := (rune_len _ hp (by omega)).2
    rw [he] at this
    by_cases h2 : 161 ≤ c
    · exact .inl ⟨decide_eq_true h2, .inr (.inr (.inr (.inr ⟨by omega, by omega, by omega, by omega, by omega, decide_eq_true h2⟩)))⟩
    · exact .inr ⟨decide_eq_false h2, decide_eq_false h2, .inl ⟨by omega, by omega, by omega, by omega, by omega, by omega⟩⟩

set_option maxRecDepth 100000 in
set_option maxHeartbeats 4000000 in
theorem right_any (s : List UInt8) (w : World) (hs : s.length ≤ 1099511627776) (hT : Tabs w) :
    Calls Tryd.prog 25 #[Str s] w fun e w' => e = .returned (.bool (rightL s)) ∧ Step [] [] w w' := by
  have HT := Lib.hid hT
  clear hT
  go_enter Tryd.func25, Tryd.ntmps25
  go_wp2_with fail
  go_loopw [3] (fun n wr => ∃ k m : Nat, k ≤ s.length ∧ m ≤ k ∧ n = .int .i64 m ∧ Hid (It8 wr w.heap.size s k ∧ rightR (decide (k = 0)) m (s.drop k) = rightL s ∧ Step [] [] w wr))
    (fun _ wr => s.length - wr.iterPos w.heap.size)
  case atStart => exact ⟨0, 0, by omega, by omega, rfl, World.iter_heap w _ 0, rfl, (Step.refl [] w).alloc _⟩
  case round =>
    obtain ⟨k, m, hk, hm, rfl, HW⟩ := hrel
    have hpos0 := HW.out.1.pos
    by_cases hlt : k < s.length
    · have hlt' : (k : Int) < s.length := by omega
      obtain ⟨c, hce⟩ : ∃ c, (rune (s.drop k)).1 = c := ⟨_, rfl⟩
      have hnx := fun ty => HW.out.1.next hlt Tryd.prog ty
      have HX : Hid (It8 (wr.iterAt w.heap.size ⟨s.toArray⟩ (k + stepL (s.drop k))) w.heap.size s (k + stepL (s.drop k)) ∧ Step [] [] w (wr.iterAt w.heap.size ⟨s.toArray⟩ (k + stepL (s.drop k)))) := ⟨HW.out.1.moved _, HW.out.2.2.iterAt (.inr (Nat.le_refl _)) _ _⟩
      obtain ⟨W1, hW1⟩ : ∃ W1, W1 = wr.iterAt w.heap.size ⟨s.toArray⟩ (k + stepL (s.drop k)) := ⟨_, rfl⟩
      rw [← hW1] at HX hnx
      rw [hce] at hnx
      clear hW1
      have HC := Lib.hid HW.out.2.1
      have HP0 := Lib.hid hpos0
      clear HW hpos0
      have hst := stepL_le (s.drop k) (by simp; omega)
      have hst0 := stepL_pos (s.drop k)
      simp only [List.length_drop] at hst
      have HP := Lib.hid (drop_len_pos s k hlt)
      have hwr := wrong_any s k hlt W1 hs (HT.out.step HX.out.2)
      rw [hce] at hwr
      have HWR := Lib.hid hwr
      have HCE := Lib.hid hce
      clear hwr hce
      go_wp2_with fail
      refine HWR.out.mono ?_
      rintro e w3 ⟨rfl, hb⟩
      have HB := Lib.hid hb
      clear hb hnx HWR
      by_cases h0 : sizeOf8 (s.drop k) = 0
      · have HE := Lib.hid (rightR_bad (decide (k = 0)) m _ HP.out h0)
        rw [decide_eq_true h0]
        clear h0
        go_wp2_with fail
        go_ret
        rw [← HC.out, HE.out]
        exact ⟨rfl, HX.out.2.trans HB.out⟩
      · have hways := name_ways s k hlt c HCE.out h0
        have HE : Hid (rightR (decide (k = 0)) m (s.drop k) = (nameC (decide (k = 0)) ((s.drop k).take (sizeOf8 (s.drop k))) && rightR (decide (k + stepL (s.drop k) = 0)) (m + 1) (s.drop (k + stepL (s.drop k))))) := by
          show _ = _
          rw [rightR_ok _ m _ HP.out h0, List.drop_drop]
          unfold stepL
          rw [if_neg h0, decide_eq_false (show ¬ (k + sizeOf8 (s.drop k) = 0) by omega)]
        rw [decide_eq_false h0]
        clear h0
        rcases hways with ⟨hn, hw⟩ | ⟨hn, hd, hw⟩
        · have HN := Lib.hid hn
          clear hn
          rcases hw with ⟨a1, a2⟩ | ⟨a1, a2, a3⟩ | ⟨a1, a2, a3, a4⟩ | ⟨a1, a2, a3, a4, a5, a6⟩ | ⟨a1, a2, a3, a4, a5, a6⟩
          all_goals try (have a7 : ((c : Int) == 45) = true := (by rw [show (c : Int) = 45 from a4]; rfl); clear a4)
          all_goals try (have a7 : ((c : Int) == 95) = true := (by rw [show (c : Int) = 95 from a4]; rfl); clear a4)
          all_goals try have H6 := Lib.hid a6
          all_goals try clear a6
          all_goals
            go_wp2_with (with_reducible refine (high_any c _).mono ?_; rintro e w4 ⟨rfl, rfl⟩; rw [H6.out])
            go_roundw
            case rel =>
              exact ⟨k + stepL (s.drop k), m + 1, by omega, by omega, by go_num, HX.out.1.step HB.out (by simp), by rw [← HC.out, HE.out, HN.out, Bool.true_and], HX.out.2.trans HB.out⟩
            case measure => rw [(HX.out.1.step HB.out (by simp)).pos, HP0.out]; omega
        · have HN := Lib.hid hn
          have HD := Lib.hid hd
          clear hn hd
          rcases hw with ⟨a1, a2, a3, a4, a5, a6⟩ | ⟨a1, a2, a3, a4, a5⟩ | ⟨a1, a2, a3, a4⟩ | ⟨a1, a2, a3, a4, a5⟩
          all_goals try (have a7 : ((c : Int) == 45) = true := (by rw [show (c : Int) = 45 from a4]; rfl); clear a4)
          all_goals try (have a7 : ((c : Int) == 95) = true := (by rw [show (c : Int) = 95 from a4]; rfl); clear a4)
          all_goals
            go_wp2_with (with_reducible refine (high_any c _).mono ?_; rintro e w4 ⟨rfl, rfl⟩; rw [HD.out])
            go_ret
            rw [← HC.out, HE.out, HN.out, Bool.false_and]
            exact ⟨rfl, HX.out.2.trans HB.out⟩
    · obtain rfl : k = s.length := by omega
      have hnx := fun ty => HW.out.1.stop hlt Tryd.prog ty
      have HP0 := Lib.hid hpos0
      clear hpos0
      have HE : Hid (rightR (decide (s.length = 0)) m (s.drop s.length) = (decide (1 ≤ m) && decide (m ≤ 24))) := by
        show _ = _
        rw [List.drop_length, rightR_nil]
      rcases (show (m = 0) ∨ (1 ≤ m ∧ m ≤ 24) ∨ (1 ≤ m ∧ ¬ m ≤ 24) by omega) with h | ⟨h, h2⟩ | ⟨h, h2⟩
      · have h' : ¬ (1 : Int) ≤ m := by omega
        have H := Lib.hid h
        clear h
        go_wp2_with fail
        go_ret
        rw [← HW.out.2.1, HE.out, H.out]
        exact ⟨rfl, HW.out.2.2⟩
      · have h' : (1 : Int) ≤ m := by omega
        have h'' : (m : Int) ≤ 24 := by omega
        have H := Lib.hid (And.intro h h2)
        clear h h2
        go_wp2_with fail
        go_ret
        rw [← HW.out.2.1, HE.out, decide_eq_true H.out.1, decide_eq_true H.out.2]
        exact ⟨rfl, HW.out.2.2⟩
      · have h' : (1 : Int) ≤ m := by omega
        have h'' : ¬ (m : Int) ≤ 24 := by omega
        have H := Lib.hid (And.intro h h2)
        clear h h2
        go_wp2_with fail
        go_ret
        rw [← HW.out.2.1, HE.out, decide_eq_true H.out.1, decide_eq_false H.out.2]
        exact ⟨rfl, HW.out.2.2⟩
end Go.Proofs.YtfkjgkgflkhbnaaDoor
