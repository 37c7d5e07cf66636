/-
  Layer 4's reference: Plain. Condition: texts of at most 2^40 bytes.
-/
import Derived.Test.YtbdknljpbgocmaaDoorNameRefL
import Derived.Test.YtbdknljpbgocmaaDoorMem5
namespace Go.Proofs.YtbdknljpbgocmaaDoor
open Go.RowKit
set_option linter.unusedSimpArgs false
set_option linter.unusedVariables false

theorem Tryd.info_bytes : (Tryd.prog.info? 5).map (fun i => (i.zero, i.size, i.bytes)) = some (some (.int .u8 0), 1, 1) := by kernel_rfl
theorem run_digit (n : Nat) (hn : n < 16) (w : World) : (Instr.index 9 (.string { data := #[48, 49, 50, 51, 52, 53, 54, 55, 56, 57, 97, 98, 99, 100, 101, 102] }) (.int .u8 (n : Int))).run Tryd.prog w = .ok (.int .u8 ((hexd n).toNat : Int)) w := by
  have : n = 0 ∨ n = 1 ∨ n = 2 ∨ n = 3 ∨ n = 4 ∨ n = 5 ∨ n = 6 ∨ n = 7 ∨ n = 8 ∨ n = 9 ∨ n = 10 ∨ n = 11 ∨ n = 12 ∨ n = 13 ∨ n = 14 ∨ n = 15 := by omega
  rcases this with rfl | rfl | rfl | rfl | rfl | rfl | rfl | rfl | rfl | rfl | rfl | rfl | rfl | rfl | rfl | rfl <;> rfl
theorem digit_hi (c : UInt8) (w : World) : (Instr.index 9 (.string { data := #[48, 49, 50, 51, 52, 53, 54, 55, 56, 57, 97, 98, 99, 100, 101, 102] }) (.int .u8 ((c.toNat : Int) / 16))).run Tryd.prog w = .ok (.int .u8 ((hexd (c.toNat / 16)).toNat : Int)) w := by
  have e : (c.toNat : Int) / 16 = ((c.toNat / 16 : Nat) : Int) := by omega
  have := c.toNat_lt
  rw [e]; exact run_digit _ (by omega) w
theorem digit_lo (c : UInt8) (w : World) : (Instr.index 9 (.string { data := #[48, 49, 50, 51, 52, 53, 54, 55, 56, 57, 97, 98, 99, 100, 101, 102] }) (.int .u8 ((c.toNat : Int) % 16))).run Tryd.prog w = .ok (.int .u8 ((hexd (c.toNat % 16)).toNat : Int)) w := by
  have e : (c.toNat : Int) % 16 = ((c.toNat % 16 : Nat) : Int) := by omega
  rw [e]; exact run_digit _ (by omega) w

theorem u8_div16 (c : UInt8) : IntKind.u8.wrap ((c.toNat : Int) / 16) = (c.toNat : Int) / 16 := IntWalk.u8_in _ (by have := c.toNat_lt; omega)
theorem u8_mod16 (c : UInt8) : (c.toNat : Int).tmod 16 = (c.toNat : Int) % 16 := Int.tmod_eq_emod_of_nonneg (by omega)
theorem src_mid {P : Program} (w : World) (T : TypeId) (hT : P.underlying T = some .string) (s : List UInt8) (k z : Nat) (h : k + z ≤ s.length) : Src P w 1 T (Str ((s.drop k).take (k + z - k))) z (((s.drop k).take z).map bv) := by
  have e1 : k + z - k = z := by omega
  have hl : ((s.drop k).take z).length = z := by simp; omega
  have := Src.str (P := P) w T hT ((s.drop k).take z)
  rw [e1]
  rwa [hl] at this
theorem take_snoc8 (p : List UInt8) (j : Nat) (h : j < p.length) : p.take (j + 1) = p.take j ++ [p[j]] := List.take_succ_eq_append_getElem h

set_option maxRecDepth 100000 in
set_option maxHeartbeats 4000000 in
theorem refPlain_any (s : List UInt8) (w : World) (hs : s.length ≤ 1099511627776) :
    Calls Tryd.prog 15 #[Str s] w fun e w' => e = .returned (Str (plainL s)) ∧ Step [] [] w w' := by
  obtain ⟨i0, hi, hz0, hz1, hz2⟩ := info_parts Tryd.info_bytes
  have HI := Lib.hid (And.intro hi (And.intro hz0 (And.intro hz1 hz2)))
  clear hi hz0 hz1 hz2
  go_enter Tryd.func15, Tryd.ntmps15
  go_wp2_with fail
  go_loopw [3, 4] (fun o at' wr => ∃ (k : Nat) (a : Option Addr) (cap n : Nat), k ≤ s.length ∧ at' = .int .i64 k ∧ o = .slice a n cap ∧ n ≤ 3 * k ∧ Hid (∃ d : List UInt8, d.length = n ∧ d ++ plainL (s.drop k) = plainL s ∧ Row wr 1 a n cap (d.map bv) ∧ Step [] (blks a) w wr))
    (fun _ at' _ => s.length - (intOf at').toNat)
  case atStart => exact ⟨0, _, 0, 0, by omega, rfl, rfl, by omega, [], rfl, rfl, Row.empty w _ 1, by first | exact ((Step.refl [] w).hold _) | exact ((Step.refl [] w).hold _).drop (by simp [blks])⟩
  case round =>
    obtain ⟨k, a, cap, n, hk, rfl, rfl, hn, HW⟩ := hrel
    by_cases hlt : k < s.length
    · have hlt' : (k : Int) < s.length := by omega
      have hz := sz_le (s.drop k)
      have hz4 := sz_le4 (s.drop k)
      simp only [List.length_drop] at hz
      have HP := Lib.hid (drop_len_pos s k hlt)
      have HD := Lib.hid (drop_step s k)
      go_wp2_with fail
      refine (size_any (s.drop k) _ (by simp; omega)).mono ?_
      rintro e w1 ⟨rfl, rfl⟩
      by_cases h0 : sizeOf8 (s.drop k) = 0
      · have hnp : ¬ (0 : Int) < sizeOf8 (s.drop k) := by omega
        have h0' : ((sizeOf8 (s.drop k) : Int) == 0) = true := by simp [h0]
        have HE : Hid (plainL (s.drop k) = escL ((s.drop k).take 1) ++ plainL (s.drop (k + 1))) := by show _ = _; rw [plainL_bad _ HP.out h0, List.drop_drop]
        have hq1 : 1 ≤ s.length - k := by omega
        clear h0 hz hz4
        go_wp2_with fail
        obtain ⟨d, hd1, hd2, hd3, hd4⟩ := HW.out
        have hpl : ((s.drop k).take 1).length = 1 := by simp; omega
        obtain ⟨p, hpe⟩ : ∃ p, (s.drop k).take 1 = p := ⟨_, rfl⟩
        have hpi : ∀ j, j < 1 → s[k + j]? = p[j]? := by
          intro j hj
          rw [← hpe, List.getElem?_take, if_pos hj, List.getElem?_drop]
        rw [hpe] at hpl
        have hHE := HE.out
        rw [hpe] at hHE
        have HX := Lib.hid (And.intro hd1 (And.intro hd2 (And.intro hd3 (And.intro hd4 (And.intro hpi (And.intro hpl hHE))))))
        clear hd1 hd2 hd3 hd4 HW hpe hpi hpl hHE HE
        go_loopw [3, 6] (fun o i wq => ∃ (j : Nat) (a' : Option Addr) (cap' n' : Nat), j ≤ 1 ∧ i = .int .i64 j ∧ o = .slice a' n' cap' ∧ n' ≤ 3 * (k + j) ∧ Hid (n' = n + 3 * j ∧ Row wq 1 a' n' cap' ((d ++ escL (p.take j)).map bv) ∧ Step [] (blks a') w wq))
          (fun _ i _ => 1 - (intOf i).toNat)
        case atStart => exact ⟨0, a, cap, n, by omega, rfl, rfl, by omega, by omega, by simpa [escL] using HX.out.2.2.1, HX.out.2.2.2.1⟩
        case round =>
          rename World => wq
          obtain ⟨j, a', cap', n', hj, rfl, rfl, hn', HV⟩ := hrel
          by_cases hjl : j < 1
          · have hjl' : (j : Int) < 1 := by omega
            have hkj : k + j < s.length := by omega
            have hkj' : (k : Int) + j < s.length := by omega
            obtain ⟨c, hc⟩ : ∃ c, s[k + j] = c := ⟨_, rfl⟩
            have hpc : Hid (p.take (j + 1) = p.take j ++ [c]) := by
              have h1 := HX.out.2.2.2.2.1 j hjl
              rw [List.getElem?_eq_getElem hkj, hc] at h1
              show _ = _
              rw [List.take_add_one, ← h1]; rfl
            go_wp2_with fail
            have hdg1 := digit_hi c
            have hdg2 := digit_lo c
            have hq16 := u8_div16 c
            have hr16 := u8_mod16 c
            refine wp_region_held_drew (S := fun _ => True) (by kernel_rfl) (trivial) (fun hHeld => ?_)
            refine wpAnyH_take (i := 0) (v := ?_) rfl (by kernel_rfl) (by kernel_rfl) (by kernel_rfl) (fun _ _ _ h => h) (Or.inl ⟨by rfl, ?_⟩) hHeld ?_
            rotate_left
            · intro w hSw
              have hSw1 := hSw
              clear hSw
              try dsimp only at hSw1
              go_simp
              try (with_reducible rfl)
            try simp only [Act.put, List.setIfInBounds_toArray, List.set_cons_zero, List.set_cons_succ, List.getElem_toArray, List.getElem_cons_zero, List.getElem_cons_succ]
            refine wpAnyH_take (i := 1) (v := ?_) rfl (by kernel_rfl) (by kernel_rfl) (by kernel_rfl) (fun _ _ _ h => h) (Or.inl ⟨by rfl, ?_⟩) hHeld ?_
            rotate_left
            · intro w hSw
              have hSw1 := hSw
              clear hSw
              try dsimp only at hSw1
              go_simp
              try (with_reducible rfl)
            try simp only [Act.put, List.setIfInBounds_toArray, List.set_cons_zero, List.set_cons_succ, List.getElem_toArray, List.getElem_cons_zero, List.getElem_cons_succ]
            refine wpAnyH_take (i := 2) (v := ?_) rfl (by kernel_rfl) (by kernel_rfl) (by kernel_rfl) (fun _ _ _ h => h) (Or.inl ⟨by rfl, ?_⟩) hHeld ?_
            rotate_left
            · intro w hSw
              have hSw1 := hSw
              clear hSw
              try dsimp only at hSw1
              go_simp
              try (with_reducible rfl)
            try simp only [Act.put, List.setIfInBounds_toArray, List.set_cons_zero, List.set_cons_succ, List.getElem_toArray, List.getElem_cons_zero, List.getElem_cons_succ]
            refine wpAnyH_take (i := 4) (v := ?_) rfl (by kernel_rfl) (by kernel_rfl) (by kernel_rfl) (fun _ _ _ h => h) (Or.inl ⟨by rfl, ?_⟩) hHeld ?_
            rotate_left
            · intro w hSw
              have hSw1 := hSw
              clear hSw
              try dsimp only at hSw1
              go_simp
              try (with_reducible rfl)
            try simp only [Act.put, List.setIfInBounds_toArray, List.set_cons_zero, List.set_cons_succ, List.getElem_toArray, List.getElem_cons_zero, List.getElem_cons_succ]
            refine wpAnyH_take (i := 5) (v := ?_) rfl (by kernel_rfl) (by kernel_rfl) (by kernel_rfl) (fun _ _ _ h => h) (Or.inl ⟨by rfl, ?_⟩) hHeld ?_
            rotate_left
            · intro w hSw
              have hSw1 := hSw
              clear hSw
              try dsimp only at hSw1
              go_simp
              try (with_reducible rfl)
            try simp only [Act.put, List.setIfInBounds_toArray, List.set_cons_zero, List.set_cons_succ, List.getElem_toArray, List.getElem_cons_zero, List.getElem_cons_succ]
            refine wpAnyH_take (i := 3) (v := ?_) rfl (by kernel_rfl) (by kernel_rfl) (by kernel_rfl) (fun _ _ _ h => h) (Or.inl ⟨by rfl, ?_⟩) hHeld ?_
            rotate_left
            · intro w hSw
              have hSw1 := hSw
              clear hSw
              try dsimp only at hSw1
              go_simp
              try (with_reducible rfl)
            try simp only [Act.put, List.setIfInBounds_toArray, List.set_cons_zero, List.set_cons_succ, List.getElem_toArray, List.getElem_cons_zero, List.getElem_cons_succ]
            refine wpAnyH_take (i := 6) (v := ?_) rfl (by kernel_rfl) (by kernel_rfl) (by kernel_rfl) (fun _ _ _ h => h) (Or.inl ⟨by rfl, ?_⟩) hHeld ?_
            rotate_left
            · intro w hSw
              have hSw1 := hSw
              clear hSw
              try dsimp only at hSw1
              go_simp
              try (with_reducible rfl)
            try simp only [Act.put, List.setIfInBounds_toArray, List.set_cons_zero, List.set_cons_succ, List.getElem_toArray, List.getElem_cons_zero, List.getElem_cons_succ]
            refine wpAnyH_ready (rs := [7]) (by kernel_rfl) (by simp) ?_
            refine AllReadyH.cons rfl (fun K hK => ?_) AllReadyH.nil
            go_simp
            
            go_wp2_with fail
            refine hK.out _ _ (trivial) (fun hHeld2 => ?_)
            clear hK K hHeld
            try simp only [Act.put, List.setIfInBounds_toArray, List.set_cons_zero, List.set_cons_succ, List.getElem_toArray, List.getElem_cons_zero, List.getElem_cons_succ]
            refine wpAnyH_ready (rs := [8]) (by kernel_rfl) (by simp) ?_
            refine AllReadyH.cons rfl (fun K hK => ?_) AllReadyH.nil
            refine step_append_row rfl (.tmp 51) (.tmp 58) 31 31 rfl 5 i0 _ 1 1 Tryd.underlying31 HI.out.1 HI.out.2.1 HI.out.2.2.1 HI.out.2.2.2 rfl rfl (HV.out.2.1.drew.alloc _) rfl (Src.rd 31 5 Tryd.underlying31 (row_fresh wq.drew 5 ((esc1 c).map bv) (by simp [esc1]; unfold maxLen; omega)).rd one_of_map) (by unfold maxLen; simp [esc1]; omega) (by simp [esc1]; omega) (by omega) ?_; intro a3 cap3 w3 hr3 hst3
            refine hK.out _ _ (trivial) (fun hHeld3 => ?_)
            clear hK K hHeld2
            try simp only [Act.put, List.setIfInBounds_toArray, List.set_cons_zero, List.set_cons_succ, List.getElem_toArray, List.getElem_cons_zero, List.getElem_cons_succ]
            refine wpAnyH_take (i := 9) (v := ?_) rfl (by kernel_rfl) (by kernel_rfl) (by kernel_rfl) (fun _ _ _ h => h) (Or.inl ⟨by rfl, ?_⟩) hHeld3 ?_
            rotate_left
            · intro w hSw
              have hSw1 := hSw
              clear hSw
              try dsimp only at hSw1
              go_simp
              try (with_reducible rfl)
            try simp only [Act.put, List.setIfInBounds_toArray, List.set_cons_zero, List.set_cons_succ, List.getElem_toArray, List.getElem_cons_zero, List.getElem_cons_succ]
            refine wpAnyH_done (by kernel_rfl) ?_ _
            go_wp2_with fail
            go_roundw
            case rel =>
              refine ⟨j + 1, a3, cap3, n' + 3, by omega, by go_num, rfl, by omega, by have := HV.out.1; omega, ?_, (HV.out.2.2.drew.alloc _).trans hst3⟩
              rw [hpc.out, escL_snoc, ← List.append_assoc, List.map_append]
              exact hr3
            case measure => simp [intOf]; omega
          · obtain rfl : j = 1 := by omega
            have hjl' : ¬ ((1 : Int) < 1) := by omega
            have HV2 : Hid (Row wq 1 a' n' cap' ((d ++ escL p).map bv)) := by
              have := HV.out.2.1
              rwa [List.take_of_length_le (by have := HX.out.2.2.2.2.2.1; omega)] at this
            go_wp2_with fail
            go_roundw
            case rel =>
              refine ⟨k + 1, a', cap', n', by omega, by go_num, rfl, by have := HV.out.1; omega, d ++ escL p, ?_, ?_, HV2.out, HV.out.2.2⟩
              · have h1 := HV.out.1; have h2 := HX.out.1; have h3 := HX.out.2.2.2.2.2.1
                rw [List.length_append, escL_len]; omega
              · rw [List.append_assoc, ← HX.out.2.2.2.2.2.2]; exact HX.out.2.1
            case measure => simp [intOf]; omega
      · have hp : 0 < sizeOf8 (s.drop k) := by omega
        have hp' : (0 : Int) < sizeOf8 (s.drop k) := by omega
        have h0' : ((sizeOf8 (s.drop k) : Int) == 0) = false := by simp; omega
        have H0 := Lib.hid h0
        clear h0
        go_wp2_with fail
        refine (itself_any ((s.drop k).take (sizeOf8 (s.drop k))) _ (by simp; omega)).mono ?_
        rintro e w1 ⟨rfl, rfl⟩
        cases hb : itselfB ((s.drop k).take (sizeOf8 (s.drop k))) with
        | true =>
          have HB := Lib.hid (plainL_self _ HP.out H0.out hb)
          clear hb
          obtain ⟨d, hd1, hd2, hd3, hd4⟩ := HW.out
          have HX := Lib.hid (And.intro hd1 (And.intro hd2 (And.intro hd3 hd4)))
          clear hd1 hd2 hd3 hd4 HW
          have hlen : Hid (((s.drop k).take (sizeOf8 (s.drop k))).length = sizeOf8 (s.drop k)) := by show _ = _; simp; omega
          go_wp2_with (at_builtin; refine wpList_append_row rfl (.tmp 28) (.tmp 34) 31 9 rfl 5 i0 _ 1 1 Tryd.underlying31 HI.out.1 HI.out.2.1 HI.out.2.2.1 HI.out.2.2.2 rfl rfl HX.out.2.2.1 rfl (src_mid _ 9 Tryd.underlying9 s k (sizeOf8 (s.drop k)) (by omega)) (by unfold maxLen; omega) (by omega) (by omega) ?_; intro a3 cap3 w3 hr3 hst3)
          have H3 := Lib.hid (And.intro hr3 hst3)
          clear hr3 hst3
          go_wp2_with fail
          go_roundw
          case rel =>
            refine ⟨k + sizeOf8 (s.drop k), a3, cap3, _, by omega, by go_num, rfl, by omega, d ++ (s.drop k).take (sizeOf8 (s.drop k)), by rw [List.length_append, HX.out.1, hlen.out], ?_, ?_, HX.out.2.2.2.trans H3.out.2⟩
            · rw [List.append_assoc, ← HD.out, ← HB.out]; exact HX.out.2.1
            · rw [List.map_append]; exact H3.out.1
          case measure => simp [intOf]; omega
        | false =>
          have HE : Hid (plainL (s.drop k) = escL ((s.drop k).take (sizeOf8 (s.drop k))) ++ plainL (s.drop (k + sizeOf8 (s.drop k)))) := by show _ = _; rw [plainL_esc _ HP.out H0.out hb, HD.out]
          clear hb
          go_wp2_with fail
          obtain ⟨d, hd1, hd2, hd3, hd4⟩ := HW.out
          have hpl : ((s.drop k).take (sizeOf8 (s.drop k))).length = (sizeOf8 (s.drop k)) := by simp; omega
          obtain ⟨p, hpe⟩ : ∃ p, (s.drop k).take (sizeOf8 (s.drop k)) = p := ⟨_, rfl⟩
          have hpi : ∀ j, j < (sizeOf8 (s.drop k)) → s[k + j]? = p[j]? := by
            intro j hj
            rw [← hpe, List.getElem?_take, if_pos hj, List.getElem?_drop]
          rw [hpe] at hpl
          have hHE := HE.out
          rw [hpe] at hHE
          have HX := Lib.hid (And.intro hd1 (And.intro hd2 (And.intro hd3 (And.intro hd4 (And.intro hpi (And.intro hpl hHE))))))
          clear hd1 hd2 hd3 hd4 HW hpe hpi hpl hHE HE
          go_loopw [3, 6] (fun o i wq => ∃ (j : Nat) (a' : Option Addr) (cap' n' : Nat), j ≤ (sizeOf8 (s.drop k)) ∧ i = .int .i64 j ∧ o = .slice a' n' cap' ∧ n' ≤ 3 * (k + j) ∧ Hid (n' = n + 3 * j ∧ Row wq 1 a' n' cap' ((d ++ escL (p.take j)).map bv) ∧ Step [] (blks a') w wq))
            (fun _ i _ => (sizeOf8 (s.drop k)) - (intOf i).toNat)
          case atStart => exact ⟨0, a, cap, n, by omega, rfl, rfl, by omega, by omega, by simpa [escL] using HX.out.2.2.1, HX.out.2.2.2.1⟩
          case round =>
            rename World => wq
            obtain ⟨j, a', cap', n', hj, rfl, rfl, hn', HV⟩ := hrel
            by_cases hjl : j < (sizeOf8 (s.drop k))
            · have hjl' : (j : Int) < (sizeOf8 (s.drop k) : Nat) := by omega
              have hkj : k + j < s.length := by omega
              have hkj' : (k : Int) + j < s.length := by omega
              obtain ⟨c, hc⟩ : ∃ c, s[k + j] = c := ⟨_, rfl⟩
              have hpc : Hid (p.take (j + 1) = p.take j ++ [c]) := by
                have h1 := HX.out.2.2.2.2.1 j hjl
                rw [List.getElem?_eq_getElem hkj, hc] at h1
                show _ = _
                rw [List.take_add_one, ← h1]; rfl
              go_wp2_with fail
              have hdg1 := digit_hi c
              have hdg2 := digit_lo c
              have hq16 := u8_div16 c
              have hr16 := u8_mod16 c
              refine wp_region_held_drew (S := fun _ => True) (by kernel_rfl) (trivial) (fun hHeld => ?_)
              refine wpAnyH_take (i := 0) (v := ?_) rfl (by kernel_rfl) (by kernel_rfl) (by kernel_rfl) (fun _ _ _ h => h) (Or.inl ⟨by rfl, ?_⟩) hHeld ?_
              rotate_left
              · intro w hSw
                have hSw1 := hSw
                clear hSw
                try dsimp only at hSw1
                go_simp
                try (with_reducible rfl)
              try simp only [Act.put, List.setIfInBounds_toArray, List.set_cons_zero, List.set_cons_succ, List.getElem_toArray, List.getElem_cons_zero, List.getElem_cons_succ]
              refine wpAnyH_take (i := 1) (v := ?_) rfl (by kernel_rfl) (by kernel_rfl) (by kernel_rfl) (fun _ _ _ h => h) (Or.inl ⟨by rfl, ?_⟩) hHeld ?_
              rotate_left
              · intro w hSw
                have hSw1 := hSw
                clear hSw
                try dsimp only at hSw1
                go_simp
                try (with_reducible rfl)
              try simp only [Act.put, List.setIfInBounds_toArray, List.set_cons_zero, List.set_cons_succ, List.getElem_toArray, List.getElem_cons_zero, List.getElem_cons_succ]
              refine wpAnyH_take (i := 2) (v := ?_) rfl (by kernel_rfl) (by kernel_rfl) (by kernel_rfl) (fun _ _ _ h => h) (Or.inl ⟨by rfl, ?_⟩) hHeld ?_
              rotate_left
              · intro w hSw
                have hSw1 := hSw
                clear hSw
                try dsimp only at hSw1
                go_simp
                try (with_reducible rfl)
              try simp only [Act.put, List.setIfInBounds_toArray, List.set_cons_zero, List.set_cons_succ, List.getElem_toArray, List.getElem_cons_zero, List.getElem_cons_succ]
              refine wpAnyH_take (i := 4) (v := ?_) rfl (by kernel_rfl) (by kernel_rfl) (by kernel_rfl) (fun _ _ _ h => h) (Or.inl ⟨by rfl, ?_⟩) hHeld ?_
              rotate_left
              · intro w hSw
                have hSw1 := hSw
                clear hSw
                try dsimp only at hSw1
                go_simp
                try (with_reducible rfl)
              try simp only [Act.put, List.setIfInBounds_toArray, List.set_cons_zero, List.set_cons_succ, List.getElem_toArray, List.getElem_cons_zero, List.getElem_cons_succ]
              refine wpAnyH_take (i := 5) (v := ?_) rfl (by kernel_rfl) (by kernel_rfl) (by kernel_rfl) (fun _ _ _ h => h) (Or.inl ⟨by rfl, ?_⟩) hHeld ?_
              rotate_left
              · intro w hSw
                have hSw1 := hSw
                clear hSw
                try dsimp only at hSw1
                go_simp
                try (with_reducible rfl)
              try simp only [Act.put, List.setIfInBounds_toArray, List.set_cons_zero, List.set_cons_succ, List.getElem_toArray, List.getElem_cons_zero, List.getElem_cons_succ]
              refine wpAnyH_take (i := 3) (v := ?_) rfl (by kernel_rfl) (by kernel_rfl) (by kernel_rfl) (fun _ _ _ h => h) (Or.inl ⟨by rfl, ?_⟩) hHeld ?_
              rotate_left
              · intro w hSw
                have hSw1 := hSw
                clear hSw
                try dsimp only at hSw1
                go_simp
                try (with_reducible rfl)
              try simp only [Act.put, List.setIfInBounds_toArray, List.set_cons_zero, List.set_cons_succ, List.getElem_toArray, List.getElem_cons_zero, List.getElem_cons_succ]
              refine wpAnyH_take (i := 6) (v := ?_) rfl (by kernel_rfl) (by kernel_rfl) (by kernel_rfl) (fun _ _ _ h => h) (Or.inl ⟨by rfl, ?_⟩) hHeld ?_
              rotate_left
              · intro w hSw
                have hSw1 := hSw
                clear hSw
                try dsimp only at hSw1
                go_simp
                try (with_reducible rfl)
              try simp only [Act.put, List.setIfInBounds_toArray, List.set_cons_zero, List.set_cons_succ, List.getElem_toArray, List.getElem_cons_zero, List.getElem_cons_succ]
              refine wpAnyH_ready (rs := [7]) (by kernel_rfl) (by simp) ?_
              refine AllReadyH.cons rfl (fun K hK => ?_) AllReadyH.nil
              go_simp
              
              go_wp2_with fail
              refine hK.out _ _ (trivial) (fun hHeld2 => ?_)
              clear hK K hHeld
              try simp only [Act.put, List.setIfInBounds_toArray, List.set_cons_zero, List.set_cons_succ, List.getElem_toArray, List.getElem_cons_zero, List.getElem_cons_succ]
              refine wpAnyH_ready (rs := [8]) (by kernel_rfl) (by simp) ?_
              refine AllReadyH.cons rfl (fun K hK => ?_) AllReadyH.nil
              refine step_append_row rfl (.tmp 51) (.tmp 58) 31 31 rfl 5 i0 _ 1 1 Tryd.underlying31 HI.out.1 HI.out.2.1 HI.out.2.2.1 HI.out.2.2.2 rfl rfl (HV.out.2.1.drew.alloc _) rfl (Src.rd 31 5 Tryd.underlying31 (row_fresh wq.drew 5 ((esc1 c).map bv) (by simp [esc1]; unfold maxLen; omega)).rd one_of_map) (by unfold maxLen; simp [esc1]; omega) (by simp [esc1]; omega) (by omega) ?_; intro a3 cap3 w3 hr3 hst3
              refine hK.out _ _ (trivial) (fun hHeld3 => ?_)
              clear hK K hHeld2
              try simp only [Act.put, List.setIfInBounds_toArray, List.set_cons_zero, List.set_cons_succ, List.getElem_toArray, List.getElem_cons_zero, List.getElem_cons_succ]
              refine wpAnyH_take (i := 9) (v := ?_) rfl (by kernel_rfl) (by kernel_rfl) (by kernel_rfl) (fun _ _ _ h => h) (Or.inl ⟨by rfl, ?_⟩) hHeld3 ?_
              rotate_left
              · intro w hSw
                have hSw1 := hSw
                clear hSw
                try dsimp only at hSw1
                go_simp
                try (with_reducible rfl)
              try simp only [Act.put, List.setIfInBounds_toArray, List.set_cons_zero, List.set_cons_succ, List.getElem_toArray, List.getElem_cons_zero, List.getElem_cons_succ]
              refine wpAnyH_done (by kernel_rfl) ?_ _
              go_wp2_with fail
              go_roundw
              case rel =>
                refine ⟨j + 1, a3, cap3, n' + 3, by omega, by go_num, rfl, by omega, by have := HV.out.1; omega, ?_, (HV.out.2.2.drew.alloc _).trans hst3⟩
                rw [hpc.out, escL_snoc, ← List.append_assoc, List.map_append]
                exact hr3
              case measure => simp [intOf]; omega
            · obtain rfl : j = (sizeOf8 (s.drop k)) := by omega
              have hjl' : ¬ (((sizeOf8 (s.drop k) : Nat) : Int) < (sizeOf8 (s.drop k) : Nat)) := by omega
              have HV2 : Hid (Row wq 1 a' n' cap' ((d ++ escL p).map bv)) := by
                have := HV.out.2.1
                rwa [List.take_of_length_le (by have := HX.out.2.2.2.2.2.1; omega)] at this
              go_wp2_with fail
              go_roundw
              case rel =>
                refine ⟨k + (sizeOf8 (s.drop k)), a', cap', n', by omega, by go_num, rfl, by have := HV.out.1; omega, d ++ escL p, ?_, ?_, HV2.out, HV.out.2.2⟩
                · have h1 := HV.out.1; have h2 := HX.out.1; have h3 := HX.out.2.2.2.2.2.1
                  rw [List.length_append, escL_len]; omega
                · rw [List.append_assoc, ← HX.out.2.2.2.2.2.2]; exact HX.out.2.1
              case measure => simp [intOf]; omega
    · obtain rfl : k = s.length := by omega
      obtain ⟨d, hd1, hd2, hd3, hd4⟩ := HW.out
      rw [List.drop_length, plainL_nil, List.append_nil] at hd2
      subst hd2
      have HX := Lib.hid (And.intro hd3 hd4)
      clear hd3 hd4 HW hd1
      go_wp2_with fail
      rw [run_str_of_row 31 9 5 Tryd.underlying31 Tryd.underlying5 Tryd.underlying9 HX.out.1]
      rw [Result.andThen_ok, Oper.upon_value]
      go_wp2_with fail
      refine bodyPost_ret (results_tmp rfl _ _ _) rfl ⟨rfl, HX.out.2.drop (by simp)⟩
end Go.Proofs.YtbdknljpbgocmaaDoor
