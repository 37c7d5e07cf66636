/-
  name.Plain. Conditions: texts of at most 2^40 bytes; utf8's tables as Go lays them.
-/
import Derived.Test.YtbdknljpbgocmaaDoorNameOwnRight
import Derived.Test.YtbdknljpbgocmaaDoorNameRefPlain
namespace Go.Proofs.YtbdknljpbgocmaaDoor
open Go.RowKit Go.Lib
set_option linter.unusedSimpArgs false
set_option linter.unusedVariables false

theorem eye_ways (s : List UInt8) (k : Nat) (h : k < s.length) (c : Nat) (he : (rune (s.drop k)).1 = c) (hz : sizeOf8 (s.drop k) ≠ 0) :
    (itselfB ((s.drop k).take (sizeOf8 (s.drop k))) = true ∧ (((32 : Int) ≤ c ∧ (c : Int) ≤ 126 ∧ ((c : Int) != 92) = true ∧ decide (161 ≤ c) = false) ∨ ((32 : Int) ≤ c ∧ ¬ (c : Int) ≤ 126 ∧ ((c : Int) != 92) = true ∧ decide (161 ≤ c) = true))) ∨
    (itselfB ((s.drop k).take (sizeOf8 (s.drop k))) = false ∧ ((¬ (32 : Int) ≤ c ∧ (c : Int) ≤ 126 ∧ ((c : Int) != 92) = true ∧ decide (161 ≤ c) = false) ∨ ((32 : Int) ≤ c ∧ (c : Int) ≤ 126 ∧ ((c : Int) != 92) = false ∧ decide (161 ≤ c) = false) ∨ ((32 : Int) ≤ c ∧ ¬ (c : Int) ≤ 126 ∧ ((c : Int) != 92) = true ∧ decide (161 ≤ c) = false))) := by
  have hp : 0 < (s.drop k).length := by simp; omega
  have hne : ((c : Int) != 92) = decide (c ≠ 92) := by
    rw [Bool.eq_iff_iff]; simp; omega
  rw [hne]
  by_cases h1 : sizeOf8 (s.drop k) = 1
  · obtain ⟨h2, h3⟩ := rune_one _ hp h1
    have h4 : (s.drop k)[0]'hp = s[k] := by simp
    rw [h4] at h2 h3
    rw [he] at h2
    rw [h1, take_one s k h]
    have hi : itselfB [s[k]] = decide (32 ≤ c ∧ c ≤ 126 ∧ c ≠ 92) := by simp only [itselfB, h2]
    rw [hi]
    simp only [decide_eq_true_eq, decide_eq_false_iff_not]
    omega
  · rw [rune_high _ hp (by omega), he]
    have := (rune_len _ hp (by omega)).2
    rw [he] at this
    simp only [decide_eq_true_eq, decide_eq_false_iff_not]
    omega
theorem rune_len1 (s : List UInt8) (k : Nat) (h : k < s.length) (hz : sizeOf8 (s.drop k) ≠ 0) : runeLen ((rune (s.drop k)).1 : Int) = sizeOf8 (s.drop k) := by
  have hp : 0 < (s.drop k).length := by simp; omega
  by_cases h1 : sizeOf8 (s.drop k) = 1
  · obtain ⟨h2, h3⟩ := rune_one _ hp h1
    rw [h2, h1]
    unfold runeLen
    rw [if_neg (by omega), if_pos (by omega)]
    rfl
  · exact (rune_len _ hp (by omega)).1
theorem It8.notin {w : World} {b k : Nat} {s : List UInt8} {sz n cap : Nat} {a : Option Addr} {xs : List Value} (h : It8 w b s k) (hr : Row w sz a n cap xs) : b ∉ blks a := by
  intro hm
  cases a with
  | none => simp [blks] at hm
  | some ad =>
    obtain ⟨_, cs, ⟨t, fr, h2, _⟩, _⟩ := hr.at_ ad rfl
    simp [blks] at hm
    subst hm
    unfold It8 at h
    rw [h] at h2
    cases h2
theorem and15 (c : UInt8) : bits BinOp.and IntKind.u8 (c.toNat : Int) 15 = (c.toNat : Int) % 16 := by
  have h : ∀ n : Fin 256, bits BinOp.and IntKind.u8 ((n.val : Nat) : Int) 15 = ((n.val : Nat) : Int) % 16 := by decide +kernel
  exact h ⟨c.toNat, c.toNat_lt⟩
theorem Step.keep0 {w w' : World} {S' : List Nat} (h : Step [] S' w w') (S : List Nat) : Step S S w w' := h.wide (by simp) (by intro k hk; exact .inl hk)

set_option maxRecDepth 100000 in
set_option maxHeartbeats 4000000 in
theorem plain_any (s : List UInt8) (w : World) (hs : s.length ≤ 1099511627776) (hT : Tabs w) :
    Calls Tryd.prog 14 #[Str s] w fun e w' => e = .returned (Str (plainL s)) ∧ Step [] [] w w' := by
  have HT := Lib.hid hT
  clear hT
  obtain ⟨i0, hi, hz0, hz1, hz2⟩ := info_parts Tryd.info_bytes
  have HI := Lib.hid (And.intro hi (And.intro hz0 (And.intro hz1 hz2)))
  clear hi hz0 hz1 hz2
  go_enter Tryd.func14, Tryd.ntmps14
  go_wp2_with fail
  go_loopw [3] (fun o wr => ∃ (k : Nat) (a : Option Addr) (cap n : Nat), k ≤ s.length ∧ o = .slice a n cap ∧ n ≤ 3 * k ∧ Hid (It8 wr w.heap.size s k ∧ ∃ d : List UInt8, d.length = n ∧ d ++ plainL (s.drop k) = plainL s ∧ Row wr 1 a n cap (d.map bv) ∧ Step [] (blks a) w wr))
    (fun _ wr => s.length - wr.iterPos w.heap.size)
  case atStart => exact ⟨0, _, 0, 0, by omega, rfl, by omega, World.iter_heap w _ 0, [], rfl, rfl, Row.none _ _, (Step.refl [] w).alloc _⟩
  case round =>
    obtain ⟨k, a, cap, n, hk, rfl, hn, HW⟩ := hrel
    have hpos0 := HW.out.1.pos
    by_cases hlt : k < s.length
    · have hlt' : (k : Int) < s.length := by omega
      obtain ⟨c, hce⟩ : ∃ c, (rune (s.drop k)).1 = c := ⟨_, rfl⟩
      have hnx := fun ty => HW.out.1.next hlt Tryd.prog ty
      obtain ⟨d, hd1, hd2, hd3, hd4⟩ := HW.out.2
      have hnin := HW.out.1.notin hd3
      have HX : Hid (It8 (wr.iterAt w.heap.size ⟨s.toArray⟩ (k + stepL (s.drop k))) w.heap.size s (k + stepL (s.drop k)) ∧ Step [] (blks a) w (wr.iterAt w.heap.size ⟨s.toArray⟩ (k + stepL (s.drop k))) ∧ Row (wr.iterAt w.heap.size ⟨s.toArray⟩ (k + stepL (s.drop k))) 1 a n cap (d.map bv)) :=
        ⟨HW.out.1.moved _, hd4.iterAt (.inr (Nat.le_refl _)) _ _, hd3.step ((Step.refl [w.heap.size] wr).iterAt (.inl (by simp)) _ _) (by intro g hg hm; simp at hm; subst hm; exact hnin hg)⟩
      obtain ⟨W1, hW1⟩ : ∃ W1, W1 = wr.iterAt w.heap.size ⟨s.toArray⟩ (k + stepL (s.drop k)) := ⟨_, rfl⟩
      rw [← hW1] at HX hnx
      rw [hce] at hnx
      clear hW1 hd3 hd4
      have HD := Lib.hid (And.intro hd1 hd2)
      have HP0 := Lib.hid hpos0
      clear HW hpos0 hd1 hd2 hnin
      have hz := sz_le (s.drop k)
      have hz4 := sz_le4 (s.drop k)
      simp only [List.length_drop] at hz
      have HP := Lib.hid (drop_len_pos s k hlt)
      have hwr := wrong_any s k hlt W1 hs (HT.out.step (HX.out.2.1.drop (by simp) : Step [] [] w W1))
      rw [hce] at hwr
      have HWR := Lib.hid hwr
      have HCE := Lib.hid hce
      obtain ⟨z, hze⟩ : ∃ z, runeLen (c : Int) = z := ⟨_, rfl⟩
      have hrl := Tryd.utf8_RuneLen (c : Int) W1
      rw [hze] at hrl
      have HRL := Lib.hid hrl
      have HZE := Lib.hid hze
      clear hwr hce hrl hze
      go_wp2_with fail
      refine HRL.out.mono ?_
      rintro e w2 ⟨rfl, rfl⟩
      clear HRL hnx
      go_wp2_with fail
      refine HWR.out.mono ?_
      rintro e w3 ⟨rfl, hb⟩
      have HR : Hid (Row w3 1 a n cap (d.map bv) ∧ It8 w3 w.heap.size s (k + stepL (s.drop k)) ∧ w.heap.size ∉ blks a ∧ Step [] (blks a) w w3 ∧ d.length = n ∧ d ++ plainL (s.drop k) = plainL s) := by
        have h1 := HX.out.2.2.step hb (by simp)
        have h2 := HX.out.1.step hb (by simp)
        exact ⟨h1, h2, h2.notin h1, HX.out.2.1.trans (hb.keep _), HD.out.1, HD.out.2⟩
      clear hb HWR HX HD
      by_cases h0 : sizeOf8 (s.drop k) = 0
      · have HE : Hid (plainL (s.drop k) = escL ((s.drop k).take 1) ++ plainL (s.drop (k + 1))) := by show _ = _; rw [plainL_bad _ HP.out h0, List.drop_drop]
        have hst : stepL (s.drop k) = 1 := by unfold stepL; rw [if_pos h0]
        rw [hst] at HR
        have hq1 : 1 ≤ s.length - k := by omega
        rw [decide_eq_true h0]
        clear h0 hz hz4 hst HZE HCE
        go_wp2_with fail
        obtain ⟨g, cap4, w4, hcv, hrow4, hst4, hg⟩ := run_row_of_str (P := Tryd.prog) (w := w3) 9 31 5 ((s.drop k).take 1) Tryd.underlying9 Tryd.underlying31 Tryd.underlying5 (by unfold maxLen; simp; omega)
        rw [hcv, Result.andThen_ok, Oper.upon_value]
        have hcz : (s.drop k).take 1 = (s.drop k).take 1 := by first | rfl | (congr 1; omega)
        have hpl : ((s.drop k).take 1).length = 1 := by rw [hcz]; simp; omega
        rw [hpl] at hrow4 ⊢
        rw [hcz] at hrow4
        clear hcv hpl hcz
        obtain ⟨p, hpe⟩ : ∃ p, (s.drop k).take 1 = p := ⟨_, rfl⟩
        have hpl : p.length = 1 := by rw [← hpe]; simp; omega
        have hgn : g ∉ blks a := fun hm => by have := HR.out.1.lt _ hm; omega
        have hHE := HE.out
        rw [hpe] at hHE hrow4
        have HX2 := Lib.hid (And.intro hrow4 (And.intro hst4 (And.intro hgn (And.intro hpl hHE))))
        clear hrow4 hst4 hgn hpl hHE hpe HE hg
        go_wp2_with fail
        go_loopw [3, 51] (fun o i wq => ∃ (j : Nat) (a' : Option Addr) (cap' n' : Nat), j ≤ 1 ∧ i = .int .i64 j ∧ o = .slice a' n' cap' ∧ n' ≤ 3 * (k + j) ∧ Hid (n' = n + 3 * j ∧ Row wq 1 a' n' cap' ((d ++ escL (p.take j)).map bv) ∧ Step (blks a) (blks a') w4 wq))
          (fun _ i _ => 1 - (RowKit.intOf i).toNat)
        case atStart => exact ⟨0, a, cap, n, by omega, rfl, rfl, by omega, by omega, by simpa [escL] using HR.out.1.step HX2.out.2.1 (by simp), Step.refl _ _⟩
        case round =>
          rename World => wq
          obtain ⟨j, a', cap', n', hj, rfl, rfl, hn', HV⟩ := hrel
          by_cases hjl : j < 1
          · have hjl' : (j : Int) < (1 : Int) := by omega
            obtain ⟨c8, hc8⟩ : ∃ c8, p[j]? = some c8 := ⟨_, List.getElem?_eq_getElem (by rw [HX2.out.2.2.2.1]; exact hjl)⟩
            have cx : wq.cell? ⟨g, j, none⟩ = some (.int .u8 (c8.toNat : Int)) := by
              have := (HX2.out.1.rd.step HV.out.2.2 (by simpa [blks] using HX2.out.2.2.1)).cell g 0 none rfl j (bv c8) (by simp [hc8])
              rw [Nat.zero_add] at this
              exact this
            have hpc : Hid (p.take (j + 1) = p.take j ++ [c8]) := by show _ = _; rw [List.take_add_one, hc8]; rfl
            clear hc8
            go_wp2_with fail
            have hdg1 := digit_hi c8
            have hdg2 := digit_lo c8
            have hdg3 := and15 c8
            refine wp_region_held_drew (S := fun _ => True) (by kernel_rfl) (trivial) (fun hHeld => ?_)
            refine wpAnyH_take (i := 0) (v := ?_) rfl (by kernel_rfl) (by kernel_rfl) (by kernel_rfl) (fun _ _ _ h => h) (Or.inl ⟨by rfl, ?_⟩) hHeld ?_
            rotate_left
            · intro w hSw
              have hSw1 := hSw
              clear hSw
              try dsimp only at hSw1
              go_simp
              try (with_reducible rfl)
            try simp only [Act.put, List.setIfInBounds_toArray, List.set_cons_zero, List.set_cons_succ, List.getElem_toArray, List.getElem_cons_zero, List.getElem_cons_succ]
            refine wpAnyH_take (i := 1) (v := ?_) rfl (by kernel_rfl) (by kernel_rfl) (by kernel_rfl) (fun _ _ _ h => h) (Or.inl ⟨by rfl, ?_⟩) hHeld ?_
            rotate_left
            · intro w hSw
              have hSw1 := hSw
              clear hSw
              try dsimp only at hSw1
              go_simp
              try (with_reducible rfl)
            try simp only [Act.put, List.setIfInBounds_toArray, List.set_cons_zero, List.set_cons_succ, List.getElem_toArray, List.getElem_cons_zero, List.getElem_cons_succ]
            refine wpAnyH_take (i := 2) (v := ?_) rfl (by kernel_rfl) (by kernel_rfl) (by kernel_rfl) (fun _ _ _ h => h) (Or.inl ⟨by rfl, ?_⟩) hHeld ?_
            rotate_left
            · intro w hSw
              have hSw1 := hSw
              clear hSw
              try dsimp only at hSw1
              go_simp
              try (with_reducible rfl)
            try simp only [Act.put, List.setIfInBounds_toArray, List.set_cons_zero, List.set_cons_succ, List.getElem_toArray, List.getElem_cons_zero, List.getElem_cons_succ]
            refine wpAnyH_take (i := 4) (v := ?_) rfl (by kernel_rfl) (by kernel_rfl) (by kernel_rfl) (fun _ _ _ h => h) (Or.inl ⟨by rfl, ?_⟩) hHeld ?_
            rotate_left
            · intro w hSw
              have hSw1 := hSw
              clear hSw
              try dsimp only at hSw1
              go_simp
              try (with_reducible rfl)
            try simp only [Act.put, List.setIfInBounds_toArray, List.set_cons_zero, List.set_cons_succ, List.getElem_toArray, List.getElem_cons_zero, List.getElem_cons_succ]
            refine wpAnyH_take (i := 5) (v := ?_) rfl (by kernel_rfl) (by kernel_rfl) (by kernel_rfl) (fun _ _ _ h => h) (Or.inl ⟨by rfl, ?_⟩) hHeld ?_
            rotate_left
            · intro w hSw
              have hSw1 := hSw
              clear hSw
              try dsimp only at hSw1
              go_simp
              try (with_reducible rfl)
            try simp only [Act.put, List.setIfInBounds_toArray, List.set_cons_zero, List.set_cons_succ, List.getElem_toArray, List.getElem_cons_zero, List.getElem_cons_succ]
            refine wpAnyH_take (i := 3) (v := ?_) rfl (by kernel_rfl) (by kernel_rfl) (by kernel_rfl) (fun _ _ _ h => h) (Or.inl ⟨by rfl, ?_⟩) hHeld ?_
            rotate_left
            · intro w hSw
              have hSw1 := hSw
              clear hSw
              try dsimp only at hSw1
              go_simp
              try (with_reducible rfl)
            try simp only [Act.put, List.setIfInBounds_toArray, List.set_cons_zero, List.set_cons_succ, List.getElem_toArray, List.getElem_cons_zero, List.getElem_cons_succ]
            refine wpAnyH_take (i := 6) (v := ?_) rfl (by kernel_rfl) (by kernel_rfl) (by kernel_rfl) (fun _ _ _ h => h) (Or.inl ⟨by rfl, ?_⟩) hHeld ?_
            rotate_left
            · intro w hSw
              have hSw1 := hSw
              clear hSw
              try dsimp only at hSw1
              go_simp
              try (with_reducible rfl)
            try simp only [Act.put, List.setIfInBounds_toArray, List.set_cons_zero, List.set_cons_succ, List.getElem_toArray, List.getElem_cons_zero, List.getElem_cons_succ]
            refine wpAnyH_ready (rs := [7]) (by kernel_rfl) (by simp) ?_
            refine AllReadyH.cons rfl (fun K hK => ?_) AllReadyH.nil
            go_simp
            
            go_wp2_with fail
            refine hK.out _ _ (trivial) (fun hHeld2 => ?_)
            clear hK K hHeld
            try simp only [Act.put, List.setIfInBounds_toArray, List.set_cons_zero, List.set_cons_succ, List.getElem_toArray, List.getElem_cons_zero, List.getElem_cons_succ]
            refine wpAnyH_ready (rs := [8]) (by kernel_rfl) (by simp) ?_
            refine AllReadyH.cons rfl (fun K hK => ?_) AllReadyH.nil
            refine step_append_row rfl (.tmp 55) (.tmp 62) 31 31 rfl 5 i0 _ 1 1 Tryd.underlying31 HI.out.1 HI.out.2.1 HI.out.2.2.1 HI.out.2.2.2 rfl rfl (HV.out.2.1.drew.alloc _) rfl (Src.rd 31 5 Tryd.underlying31 (row_fresh wq.drew 5 ((esc1 c8).map bv) (by simp [esc1]; unfold maxLen; omega)).rd one_of_map) (by unfold maxLen; simp [esc1]; omega) (by simp [esc1]; omega) (by omega) ?_; intro a3 cap3 w8 hr3 hst3
            refine hK.out _ _ (trivial) (fun hHeld3 => ?_)
            clear hK K hHeld2
            try simp only [Act.put, List.setIfInBounds_toArray, List.set_cons_zero, List.set_cons_succ, List.getElem_toArray, List.getElem_cons_zero, List.getElem_cons_succ]
            refine wpAnyH_take (i := 9) (v := ?_) rfl (by kernel_rfl) (by kernel_rfl) (by kernel_rfl) (fun _ _ _ h => h) (Or.inl ⟨by rfl, ?_⟩) hHeld3 ?_
            rotate_left
            · intro w hSw
              have hSw1 := hSw
              clear hSw
              try dsimp only at hSw1
              go_simp
              try (with_reducible rfl)
            try simp only [Act.put, List.setIfInBounds_toArray, List.set_cons_zero, List.set_cons_succ, List.getElem_toArray, List.getElem_cons_zero, List.getElem_cons_succ]
            refine wpAnyH_done (by kernel_rfl) ?_ _
            go_wp2_with fail
            go_roundw
            case rel =>
              refine ⟨j + 1, a3, cap3, n' + 3, by omega, by go_num, rfl, by omega, by have := HV.out.1; omega, ?_, (HV.out.2.2.drew.alloc _).trans hst3⟩
              rw [hpc.out, escL_snoc, ← List.append_assoc, List.map_append]
              exact hr3
            case measure => simp [RowKit.intOf]; omega
          · obtain rfl : j = 1 := by omega
            have hjl' : ¬ ((1 : Int) < (1 : Int)) := by omega
            have HV2 : Hid (Row wq 1 a' n' cap' ((d ++ escL p).map bv)) := by
              have := HV.out.2.1
              rwa [List.take_of_length_le (by have := HX2.out.2.2.2.1; omega)] at this
            have HI2 : Hid (It8 wq w.heap.size s (k + 1)) := (HR.out.2.1.step HX2.out.2.1 (by simp)).step HV.out.2.2 HR.out.2.2.1
            go_wp2_with fail
            go_roundw
            case rel =>
              refine ⟨k + 1, a', cap', n', by omega, rfl, by have := HV.out.1; omega, HI2.out, d ++ escL p, ?_, ?_, HV2.out, (HR.out.2.2.2.1.trans (HX2.out.2.1.keep0 _)).trans HV.out.2.2⟩
              · have h1 := HV.out.1; have h2 := HR.out.2.2.2.2.1; have h3 := HX2.out.2.2.2.1
                rw [List.length_append, escL_len]; omega
              · rw [List.append_assoc, ← HX2.out.2.2.2.2]; exact HR.out.2.2.2.2.2
            case measure => rw [HI2.out.pos, HP0.out]; omega
      · have hways := eye_ways s k hlt c HCE.out h0
        have hzz : z = sizeOf8 (s.drop k) := by rw [← HZE.out, ← HCE.out]; exact rune_len1 s k hlt h0
        subst hzz
        have hst : stepL (s.drop k) = sizeOf8 (s.drop k) := by unfold stepL; rw [if_neg h0]
        rw [hst] at HR
        have hp0 : 0 < sizeOf8 (s.drop k) := by omega
        have H0 := Lib.hid h0
        rw [decide_eq_false h0]
        clear h0 hst HZE HCE
        rcases hways with ⟨hi, hw⟩ | ⟨hi, hw⟩
        · have HB := Lib.hid (plainL_self _ HP.out H0.out hi)
          have HDD := Lib.hid (drop_step s k)
          clear hi
          have hlen : Hid (((s.drop k).take (sizeOf8 (s.drop k))).length = sizeOf8 (s.drop k)) := by show _ = _; simp; omega
          rcases hw with ⟨a1, a2, a3, a4⟩ | ⟨a1, a2, a3, a4⟩
          all_goals
            have H6 := Lib.hid a4
            clear a4
            go_wp2_with first
              | (with_reducible refine (high_any c _).mono ?_; rintro e w4 ⟨rfl, rfl⟩; rw [H6.out])
              | (at_builtin; refine wpList_append_row rfl (.tmp 35) (.tmp 41) 31 9 rfl 5 i0 _ 1 1 Tryd.underlying31 HI.out.1 HI.out.2.1 HI.out.2.2.1 HI.out.2.2.2 rfl rfl HR.out.1 rfl (src_mid _ 9 Tryd.underlying9 s k (sizeOf8 (s.drop k)) (by omega)) (by unfold maxLen; omega) (by omega) (by omega) ?_; intro a5 cap5 w5 hr5 hst5)
            have H5 := Lib.hid (And.intro hr5 hst5)
            clear hr5 hst5
            go_wp2_with fail
            go_roundw
            case rel =>
              refine ⟨k + sizeOf8 (s.drop k), a5, cap5, _, by omega, rfl, by omega, HR.out.2.1.step H5.out.2 HR.out.2.2.1, d ++ (s.drop k).take (sizeOf8 (s.drop k)), by rw [List.length_append, HR.out.2.2.2.2.1, hlen.out], ?_, ?_, HR.out.2.2.2.1.trans H5.out.2⟩
              · rw [List.append_assoc, ← HDD.out, ← HB.out]; exact HR.out.2.2.2.2.2
              · rw [List.map_append]; exact H5.out.1
            case measure => rw [(HR.out.2.1.step H5.out.2 HR.out.2.2.1).pos, HP0.out]; omega
        · have HE : Hid (plainL (s.drop k) = escL ((s.drop k).take (sizeOf8 (s.drop k))) ++ plainL (s.drop (k + sizeOf8 (s.drop k)))) := by show _ = _; rw [plainL_esc _ HP.out H0.out hi, drop_step s k]
          clear hi
          rcases hw with ⟨a1, a2, a3, a4⟩ | ⟨a1, a2, a3, a4⟩ | ⟨a1, a2, a3, a4⟩
          all_goals
            have H6 := Lib.hid a4
            clear a4
            go_wp2_with (with_reducible refine (high_any c _).mono ?_; rintro e w4 ⟨rfl, rfl⟩; rw [H6.out])
            obtain ⟨g, cap4, w4, hcv, hrow4, hst4, hg⟩ := run_row_of_str (P := Tryd.prog) (w := w3) 9 31 5 ((s.drop k).take (sizeOf8 (s.drop k))) Tryd.underlying9 Tryd.underlying31 Tryd.underlying5 (by unfold maxLen; simp; omega)
            rw [hcv, Result.andThen_ok, Oper.upon_value]
            have hcz : (s.drop k).take (sizeOf8 (s.drop k)) = (s.drop k).take (sizeOf8 (s.drop k)) := by first | rfl | (congr 1; omega)
            have hpl : ((s.drop k).take (sizeOf8 (s.drop k))).length = (sizeOf8 (s.drop k)) := by rw [hcz]; simp; omega
            rw [hpl] at hrow4 ⊢
            rw [hcz] at hrow4
            clear hcv hpl hcz
            obtain ⟨p, hpe⟩ : ∃ p, (s.drop k).take (sizeOf8 (s.drop k)) = p := ⟨_, rfl⟩
            have hpl : p.length = (sizeOf8 (s.drop k)) := by rw [← hpe]; simp; omega
            have hgn : g ∉ blks a := fun hm => by have := HR.out.1.lt _ hm; omega
            have hHE := HE.out
            rw [hpe] at hHE hrow4
            have HX2 := Lib.hid (And.intro hrow4 (And.intro hst4 (And.intro hgn (And.intro hpl hHE))))
            clear hrow4 hst4 hgn hpl hHE hpe HE hg
            go_wp2_with fail
            go_loopw [3, 51] (fun o i wq => ∃ (j : Nat) (a' : Option Addr) (cap' n' : Nat), j ≤ (sizeOf8 (s.drop k)) ∧ i = .int .i64 j ∧ o = .slice a' n' cap' ∧ n' ≤ 3 * (k + j) ∧ Hid (n' = n + 3 * j ∧ Row wq 1 a' n' cap' ((d ++ escL (p.take j)).map bv) ∧ Step (blks a) (blks a') w4 wq))
              (fun _ i _ => (sizeOf8 (s.drop k)) - (RowKit.intOf i).toNat)
            case atStart => exact ⟨0, a, cap, n, by omega, rfl, rfl, by omega, by omega, by simpa [escL] using HR.out.1.step HX2.out.2.1 (by simp), Step.refl _ _⟩
            case round =>
              rename World => wq
              obtain ⟨j, a', cap', n', hj, rfl, rfl, hn', HV⟩ := hrel
              by_cases hjl : j < (sizeOf8 (s.drop k))
              · have hjl' : (j : Int) < ((sizeOf8 (s.drop k)) : Int) := by omega
                obtain ⟨c8, hc8⟩ : ∃ c8, p[j]? = some c8 := ⟨_, List.getElem?_eq_getElem (by rw [HX2.out.2.2.2.1]; exact hjl)⟩
                have cx : wq.cell? ⟨g, j, none⟩ = some (.int .u8 (c8.toNat : Int)) := by
                  have := (HX2.out.1.rd.step HV.out.2.2 (by simpa [blks] using HX2.out.2.2.1)).cell g 0 none rfl j (bv c8) (by simp [hc8])
                  rw [Nat.zero_add] at this
                  exact this
                have hpc : Hid (p.take (j + 1) = p.take j ++ [c8]) := by show _ = _; rw [List.take_add_one, hc8]; rfl
                clear hc8
                go_wp2_with fail
                have hdg1 := digit_hi c8
                have hdg2 := digit_lo c8
                have hdg3 := and15 c8
                refine wp_region_held_drew (S := fun _ => True) (by kernel_rfl) (trivial) (fun hHeld => ?_)
                refine wpAnyH_take (i := 0) (v := ?_) rfl (by kernel_rfl) (by kernel_rfl) (by kernel_rfl) (fun _ _ _ h => h) (Or.inl ⟨by rfl, ?_⟩) hHeld ?_
                rotate_left
                · intro w hSw
                  have hSw1 := hSw
                  clear hSw
                  try dsimp only at hSw1
                  go_simp
                  try (with_reducible rfl)
                try simp only [Act.put, List.setIfInBounds_toArray, List.set_cons_zero, List.set_cons_succ, List.getElem_toArray, List.getElem_cons_zero, List.getElem_cons_succ]
                refine wpAnyH_take (i := 1) (v := ?_) rfl (by kernel_rfl) (by kernel_rfl) (by kernel_rfl) (fun _ _ _ h => h) (Or.inl ⟨by rfl, ?_⟩) hHeld ?_
                rotate_left
                · intro w hSw
                  have hSw1 := hSw
                  clear hSw
                  try dsimp only at hSw1
                  go_simp
                  try (with_reducible rfl)
                try simp only [Act.put, List.setIfInBounds_toArray, List.set_cons_zero, List.set_cons_succ, List.getElem_toArray, List.getElem_cons_zero, List.getElem_cons_succ]
                refine wpAnyH_take (i := 2) (v := ?_) rfl (by kernel_rfl) (by kernel_rfl) (by kernel_rfl) (fun _ _ _ h => h) (Or.inl ⟨by rfl, ?_⟩) hHeld ?_
                rotate_left
                · intro w hSw
                  have hSw1 := hSw
                  clear hSw
                  try dsimp only at hSw1
                  go_simp
                  try (with_reducible rfl)
                try simp only [Act.put, List.setIfInBounds_toArray, List.set_cons_zero, List.set_cons_succ, List.getElem_toArray, List.getElem_cons_zero, List.getElem_cons_succ]
                refine wpAnyH_take (i := 4) (v := ?_) rfl (by kernel_rfl) (by kernel_rfl) (by kernel_rfl) (fun _ _ _ h => h) (Or.inl ⟨by rfl, ?_⟩) hHeld ?_
                rotate_left
                · intro w hSw
                  have hSw1 := hSw
                  clear hSw
                  try dsimp only at hSw1
                  go_simp
                  try (with_reducible rfl)
                try simp only [Act.put, List.setIfInBounds_toArray, List.set_cons_zero, List.set_cons_succ, List.getElem_toArray, List.getElem_cons_zero, List.getElem_cons_succ]
                refine wpAnyH_take (i := 5) (v := ?_) rfl (by kernel_rfl) (by kernel_rfl) (by kernel_rfl) (fun _ _ _ h => h) (Or.inl ⟨by rfl, ?_⟩) hHeld ?_
                rotate_left
                · intro w hSw
                  have hSw1 := hSw
                  clear hSw
                  try dsimp only at hSw1
                  go_simp
                  try (with_reducible rfl)
                try simp only [Act.put, List.setIfInBounds_toArray, List.set_cons_zero, List.set_cons_succ, List.getElem_toArray, List.getElem_cons_zero, List.getElem_cons_succ]
                refine wpAnyH_take (i := 3) (v := ?_) rfl (by kernel_rfl) (by kernel_rfl) (by kernel_rfl) (fun _ _ _ h => h) (Or.inl ⟨by rfl, ?_⟩) hHeld ?_
                rotate_left
                · intro w hSw
                  have hSw1 := hSw
                  clear hSw
                  try dsimp only at hSw1
                  go_simp
                  try (with_reducible rfl)
                try simp only [Act.put, List.setIfInBounds_toArray, List.set_cons_zero, List.set_cons_succ, List.getElem_toArray, List.getElem_cons_zero, List.getElem_cons_succ]
                refine wpAnyH_take (i := 6) (v := ?_) rfl (by kernel_rfl) (by kernel_rfl) (by kernel_rfl) (fun _ _ _ h => h) (Or.inl ⟨by rfl, ?_⟩) hHeld ?_
                rotate_left
                · intro w hSw
                  have hSw1 := hSw
                  clear hSw
                  try dsimp only at hSw1
                  go_simp
                  try (with_reducible rfl)
                try simp only [Act.put, List.setIfInBounds_toArray, List.set_cons_zero, List.set_cons_succ, List.getElem_toArray, List.getElem_cons_zero, List.getElem_cons_succ]
                refine wpAnyH_ready (rs := [7]) (by kernel_rfl) (by simp) ?_
                refine AllReadyH.cons rfl (fun K hK => ?_) AllReadyH.nil
                go_simp
                
                go_wp2_with fail
                refine hK.out _ _ (trivial) (fun hHeld2 => ?_)
                clear hK K hHeld
                try simp only [Act.put, List.setIfInBounds_toArray, List.set_cons_zero, List.set_cons_succ, List.getElem_toArray, List.getElem_cons_zero, List.getElem_cons_succ]
                refine wpAnyH_ready (rs := [8]) (by kernel_rfl) (by simp) ?_
                refine AllReadyH.cons rfl (fun K hK => ?_) AllReadyH.nil
                refine step_append_row rfl (.tmp 55) (.tmp 62) 31 31 rfl 5 i0 _ 1 1 Tryd.underlying31 HI.out.1 HI.out.2.1 HI.out.2.2.1 HI.out.2.2.2 rfl rfl (HV.out.2.1.drew.alloc _) rfl (Src.rd 31 5 Tryd.underlying31 (row_fresh wq.drew 5 ((esc1 c8).map bv) (by simp [esc1]; unfold maxLen; omega)).rd one_of_map) (by unfold maxLen; simp [esc1]; omega) (by simp [esc1]; omega) (by omega) ?_; intro a3 cap3 w8 hr3 hst3
                refine hK.out _ _ (trivial) (fun hHeld3 => ?_)
                clear hK K hHeld2
                try simp only [Act.put, List.setIfInBounds_toArray, List.set_cons_zero, List.set_cons_succ, List.getElem_toArray, List.getElem_cons_zero, List.getElem_cons_succ]
                refine wpAnyH_take (i := 9) (v := ?_) rfl (by kernel_rfl) (by kernel_rfl) (by kernel_rfl) (fun _ _ _ h => h) (Or.inl ⟨by rfl, ?_⟩) hHeld3 ?_
                rotate_left
                · intro w hSw
                  have hSw1 := hSw
                  clear hSw
                  try dsimp only at hSw1
                  go_simp
                  try (with_reducible rfl)
                try simp only [Act.put, List.setIfInBounds_toArray, List.set_cons_zero, List.set_cons_succ, List.getElem_toArray, List.getElem_cons_zero, List.getElem_cons_succ]
                refine wpAnyH_done (by kernel_rfl) ?_ _
                go_wp2_with fail
                go_roundw
                case rel =>
                  refine ⟨j + 1, a3, cap3, n' + 3, by omega, by go_num, rfl, by omega, by have := HV.out.1; omega, ?_, (HV.out.2.2.drew.alloc _).trans hst3⟩
                  rw [hpc.out, escL_snoc, ← List.append_assoc, List.map_append]
                  exact hr3
                case measure => simp [RowKit.intOf]; omega
              · obtain rfl : j = (sizeOf8 (s.drop k)) := by omega
                have hjl' : ¬ (((sizeOf8 (s.drop k)) : Int) < ((sizeOf8 (s.drop k)) : Int)) := by omega
                have HV2 : Hid (Row wq 1 a' n' cap' ((d ++ escL p).map bv)) := by
                  have := HV.out.2.1
                  rwa [List.take_of_length_le (by have := HX2.out.2.2.2.1; omega)] at this
                have HI2 : Hid (It8 wq w.heap.size s (k + (sizeOf8 (s.drop k)))) := (HR.out.2.1.step HX2.out.2.1 (by simp)).step HV.out.2.2 HR.out.2.2.1
                go_wp2_with fail
                go_roundw
                case rel =>
                  refine ⟨k + (sizeOf8 (s.drop k)), a', cap', n', by omega, rfl, by have := HV.out.1; omega, HI2.out, d ++ escL p, ?_, ?_, HV2.out, (HR.out.2.2.2.1.trans (HX2.out.2.1.keep0 _)).trans HV.out.2.2⟩
                  · have h1 := HV.out.1; have h2 := HR.out.2.2.2.2.1; have h3 := HX2.out.2.2.2.1
                    rw [List.length_append, escL_len]; omega
                  · rw [List.append_assoc, ← HX2.out.2.2.2.2]; exact HR.out.2.2.2.2.2
                case measure => rw [HI2.out.pos, HP0.out]; omega
    · obtain rfl : k = s.length := by omega
      have hnx := fun ty => HW.out.1.stop hlt Tryd.prog ty
      have HP0 := Lib.hid hpos0
      clear hpos0
      obtain ⟨d, hd1, hd2, hd3, hd4⟩ := HW.out.2
      rw [List.drop_length, plainL_nil, List.append_nil] at hd2
      subst hd2
      have HX := Lib.hid (And.intro hd3 hd4)
      clear hd3 hd4 HW hd1
      go_wp2_with fail
      rw [run_str_of_row 31 9 5 Tryd.underlying31 Tryd.underlying5 Tryd.underlying9 HX.out.1]
      rw [Result.andThen_ok, Oper.upon_value]
      go_wp2_with fail
      refine bodyPost_ret (results_tmp rfl _ _ _) rfl ⟨rfl, HX.out.2.drop (by simp)⟩
end Go.Proofs.YtbdknljpbgocmaaDoor
