/-
  PackReads, proved: any bytes are read, thing by thing, as the document says. For every input; no condition beyond the form's own.
-/
import Derived.Test.YtjdmigoindhdnaaPackRefR
import Derived.Test.YtjdmigoindhdnaaPackLaw
import Derived.Test.YtjdmigoindhdnaaMem2
import Derived.Test.YtjdmigoindhdnaaOpen
import Derived.Deep.QuietTactic
import Derived.BigQuiet
namespace Go.Proofs.Ytjdmigoindhdnaa
open Go.RowKit Go.ChangeShapes Go.WideShapes Go.ChangeAt
set_option linter.unusedSimpArgs false
set_option linter.unusedVariables false

theorem rnum_upto (st : RS) : rnum st = upto st 4611686018427387903 := by
  unfold rnum upto
  split
  · rfl
  · split
    · rfl
    · split
      · rfl
      · unfold uptoFin
        congr 1
theorem flat2 (l : List (Int × Int)) (k : Nat) (x : Int × Int) (h : l[k]? = some x) :
    (l.flatMap (fun x => [Value.int .i64 x.1, Value.int .i64 x.2]))[k * 2]? = some (Value.int .i64 x.1) ∧ (l.flatMap (fun x => [Value.int .i64 x.1, Value.int .i64 x.2]))[k * 2 + 1]? = some (Value.int .i64 x.2) := by
  induction l generalizing k with
  | nil => simp at h
  | cons a r ih =>
    cases k with
    | zero => simp at h; subst h; simp
    | succ k =>
      have := ih k (by simpa using h)
      simp only [List.flatMap_cons]
      rw [List.getElem?_append_right (by simp; omega), List.getElem?_append_right (by simp; omega)]
      simpa [show (k + 1) * 2 - 2 = k * 2 by omega, show (k + 1) * 2 + 1 - 2 = k * 2 + 1 by omega] using this

set_option maxRecDepth 100000 in
set_option maxHeartbeats 8000000 in
theorem reads_small (s : List UInt8) (asks : List (Int × Int)) (a : Option Addr) (cap : Nat) (w : World) (hs : s.length ≤ 100000) (hn : asks.length ≤ 9223372036854775807) (hrd : Rd w 2 a asks.length (asks.flatMap (fun x => [Value.int .i64 x.1, Value.int .i64 x.2]))) :
    Calls Try.prog 6 #[Str s, .slice a asks.length cap] w fun e w' => e = .returned (.bool true) ∧ Step [] [] w w' := by
  have HR := Lib.hid hrd
  clear hrd
  have hs' : ¬ (100000 : Int) < s.length := by omega
  go_enter Try.func6, Try.ntmps6
  go_wp2_with fail
  refine (awake_true w).mono ?_
  rintro e w1 ⟨rfl, k1⟩
  have K1 := Lib.hid k1
  clear k1
  go_wp2_with fail
  refine (read_any s w1).mono ?_
  rintro e w2 ⟨rfl, hw2⟩
  obtain ⟨p, hp⟩ : ∃ p, p = w1.heap.size := ⟨_, rfl⟩
  have hb2 : Rdr w2 p ⟨s, false⟩ := by rw [hw2, hp]; exact Blk.new _ _ _
  have k2 : Step [] [] w w2 := by rw [hw2]; exact K1.out.alloc _
  have hpw : w.heap.size ≤ p := by rw [hp]; exact K1.out.size
  rw [← hp]
  have H2 := Lib.hid (And.intro hb2 k2)
  clear hw2 hp hb2 k2
  have R0 : Hid (Rdr (w2.alloc (.cells #[Str s, .bool false] 52)) p ⟨s, false⟩ ∧ Ref (w2.alloc (.cells #[Str s, .bool false] 52)) w2.heap.size ⟨s, false⟩ ∧ s.length ≤ 100000 ∧ Step [] [p, w2.heap.size] w (w2.alloc (.cells #[Str s, .bool false] 52))) := by
    refine Lib.hid ⟨Blk.alloc H2.out.1 _, Blk.new _ _ _, hs, (H2.out.2.alloc _).wide (by simp) ?_⟩
    intro k hk
    simp at hk
    rcases hk with rfl | rfl
    · exact .inr (.inr hpw)
    · exact .inr (.inr H2.out.2.size)
  have hqp : w2.heap.size ≠ p := by have := Blk.lt H2.out.1; omega
  have hpq : p ≠ w2.heap.size := fun h => hqp h.symm
  have hqw : w.heap.size ≤ w2.heap.size := H2.out.2.size
  obtain ⟨q, hq⟩ : ∃ q, q = w2.heap.size := ⟨_, rfl⟩
  go_upto_block 0 with fail
  rw [← hq]
  rw [← hq] at R0 hqp hpq hqw
  clear hq
  go_wp2_with fail
  go_loopw [8] (fun i wr => ∃ (k : Nat) (st : RS), k ≤ asks.length ∧ k ≤ 200 ∧ i = .int .i64 k ∧ Hid (Rdr wr p st ∧ Ref wr q st ∧ st.s.length ≤ 100000 ∧ Step [] [p, q] w wr))
    (fun i _ => asks.length - (intOf i).toNat)
  case atStart => exact ⟨0, ⟨s, false⟩, by omega, by omega, rfl, R0.out⟩
  case round =>
    clear R0
    obtain ⟨k, st, hk, hk200, rfl, HW⟩ := hrel
    have hstl := HW.out.2.2.1
    by_cases hlt : k < asks.length
    · have hlt' : (k : Int) < asks.length := by omega
      by_cases h200 : k < 200
      · have h200' : (k : Int) < 200 := by omega
        obtain ⟨x, hx⟩ : ∃ x, asks[k]? = some x := ⟨_, List.getElem?_eq_getElem hlt⟩
        obtain ⟨g, off, rfl⟩ := HR.out.some_ (by omega)
        have hf := flat2 asks k x hx
        have cw0 := HR.out.cell g off none rfl (k * 2) _ hf.1
        have hgw : g < w.heap.size := World.block_lt_of_cell? _ _ cw0
        have hgp : g ≠ p := by omega
        have hgq : g ≠ q := by omega
        have cx0 := (HR.out.step0 HW.out.2.2.2).cell g off none rfl (k * 2) _ hf.1
        have cx1 : wr.cell? ⟨g, off + k * 2 + 1, none⟩ = some (.int .i64 x.2) := (HR.out.step0 HW.out.2.2.2).cell g off none rfl (k * 2 + 1) _ hf.2
        clear cw0 hf
        by_cases h0 : x.1 = 0
        · rw [h0] at cx0
          go_wp2_with fail
          refine (rnum_any p st _ HW.out.1 (by omega)).mono ?_
          rintro e w6 ⟨rfl, hr6, k6⟩
          have K6 := Lib.hid (And.intro hr6 k6)
          clear hr6 k6
          obtain ⟨v, hv⟩ : ∃ v, v = upto st 4611686018427387903 := ⟨_, rfl⟩
          rw [rnum_upto] at K6
          rw [rnum_upto]
          rw [← hv]
          rw [← hv] at K6
          go_wp2_with fail
          refine (refNum_any q st _ _ (Ref.step HW.out.2.1 K6.out.2 (by simp; exact hqp)) (by omega)).mono ?_
          rintro e W ⟨rfl, hr7, k7⟩
          have K7 := Lib.hid (And.intro hr7 k7)
          clear hr7 k7
          rw [← hv]
          rw [← hv] at K7
          have hTl : v.2.s.length ≤ 100000 := by rw [hv]; exact Nat.le_trans (upto_len st 4611686018427387903) HW.out.2.2.1
          clear hv
          go_wp2_with fail
          refine (rnum_nil _).mono ?_
          rintro e w8 ⟨rfl, rfl⟩
          obtain ⟨T, hTT⟩ : ∃ T, T = v.2 := ⟨_, rfl⟩
          have HT : Hid (Rdr W p T ∧ Ref W q T ∧ Step [] [p, q] w W) := by
            rw [hTT]
            exact ⟨Blk.step K6.out.1 K7.out.2 (by simp; exact hpq), K7.out.1, (HW.out.2.2.2.trans (K6.out.2.frameR [q])).trans (K7.out.2.frame [p])⟩
          rw [← hTT] at hTl
          clear hTT
          have HLft : ∀ n, Calls Try.prog 17 #[.pointer (some ⟨p, 0, none⟩)] (W.drewN n) fun e w'' => e = .returned (.int .i64 T.s.length) ∧ ∃ m, w'' = W.drewN m := fun n => (left_any p T (W.drewN n) HT.out.1).mono fun _ _ ⟨he, hm⟩ => ⟨he, n, hm.symm⟩
          have hc0 := HT.out.2.1.c0
          have hEn : rend T = 0 ∨ rend T = 3 := by unfold rend; split <;> simp
          rcases hEn with hEn | hEn
          · have HEnd : ∀ n, Calls Try.prog 20 #[.pointer (some ⟨p, 0, none⟩)] (W.drewN n) fun e w'' => e = .returned (.int .i64 0) ∧ ∃ m, w'' = W.drewN m := fun n => by
              rw [← hEn]; exact (end_any p T (W.drewN n) HT.out.1).mono fun _ _ ⟨he, hm⟩ => ⟨he, n, hm.symm⟩
            have HDn : ∀ n, Calls Try.prog 26 #[.pointer (some ⟨q, 0, none⟩)] (W.drewN n) fun e w'' => e = .returned (.bool true) ∧ ∃ m, w'' = W.drewN m := fun n => by
              have := refDone_any q T (W.drewN n) HT.out.2.1 (by omega)
              rw [hEn] at this
              exact this.mono fun _ _ ⟨he, hm⟩ => ⟨he, n, hm.symm⟩
            go_wp2_with fail
            refine wp_region_quiet_lit (by kernel_rfl) (by kernel_rfl) ?_
            repeat go_big_quiet_step (first | with_reducible exact HLft _ | with_reducible exact HEnd _ | with_reducible exact HDn _)
            refine wpQuiet_nil ?_
            intro W2 hw'
            obtain ⟨nq, hW2⟩ := hw'
            have HW2 := Lib.hid hW2
            clear hW2
            go_wp2_with fail
            go_roundw
            case rel =>
              refine ⟨k + 1, T, by omega, by omega, by go_num, ?_⟩
              rw [HW2.out]
              exact ⟨HT.out.1, HT.out.2.1, hTl, HT.out.2.2.drewN _⟩
            case measure => simp [intOf]; omega
          · have HEnd : ∀ n, Calls Try.prog 20 #[.pointer (some ⟨p, 0, none⟩)] (W.drewN n) fun e w'' => e = .returned (.int .i64 3) ∧ ∃ m, w'' = W.drewN m := fun n => by
              rw [← hEn]; exact (end_any p T (W.drewN n) HT.out.1).mono fun _ _ ⟨he, hm⟩ => ⟨he, n, hm.symm⟩
            have HDn : ∀ n, Calls Try.prog 26 #[.pointer (some ⟨q, 0, none⟩)] (W.drewN n) fun e w'' => e = .returned (.bool false) ∧ ∃ m, w'' = W.drewN m := fun n => by
              have := refDone_any q T (W.drewN n) HT.out.2.1 (by omega)
              rw [hEn] at this
              exact this.mono fun _ _ ⟨he, hm⟩ => ⟨he, n, hm.symm⟩
            go_wp2_with fail
            refine wp_region_quiet_lit (by kernel_rfl) (by kernel_rfl) ?_
            repeat go_big_quiet_step (first | with_reducible exact HLft _ | with_reducible exact HEnd _ | with_reducible exact HDn _)
            refine wpQuiet_nil ?_
            intro W2 hw'
            obtain ⟨nq, hW2⟩ := hw'
            have HW2 := Lib.hid hW2
            clear hW2
            go_wp2_with fail
            go_roundw
            case rel =>
              refine ⟨k + 1, T, by omega, by omega, by go_num, ?_⟩
              rw [HW2.out]
              exact ⟨HT.out.1, HT.out.2.1, hTl, HT.out.2.2.drewN _⟩
            case measure => simp [intOf]; omega
        by_cases h1 : x.1 = 1
        · rw [h1] at cx0
          go_wp2_with fail
          refine wp_region_held_drew (S := fun w => w.cell? ⟨g, off + k * 2 + 1, none⟩ = some (.int .i64 x.2)) (by kernel_rfl) (cx1) (fun hHeld => ?_)
          refine wpAnyH_take (i := 0) (v := ?_) rfl (by kernel_rfl) (by kernel_rfl) (by kernel_rfl) (fun _ _ _ h => h) (Or.inl ⟨by rfl, ?_⟩) hHeld ?_
          rotate_left
          · intro w hSw
            have hSw1 := hSw
            clear hSw
            try dsimp only at hSw1
            go_simp
            try (with_reducible rfl)
          try simp only [Act.put, List.setIfInBounds_toArray, List.set_cons_zero, List.set_cons_succ, List.getElem_toArray, List.getElem_cons_zero, List.getElem_cons_succ]
          refine wpAnyH_take (i := 1) (v := ?_) rfl (by kernel_rfl) (by kernel_rfl) (by kernel_rfl) (fun _ _ _ h => h) (Or.inl ⟨by rfl, ?_⟩) hHeld ?_
          rotate_left
          · intro w hSw
            have hSw1 := hSw
            clear hSw
            try dsimp only at hSw1
            go_simp
            try (with_reducible rfl)
          try simp only [Act.put, List.setIfInBounds_toArray, List.set_cons_zero, List.set_cons_succ, List.getElem_toArray, List.getElem_cons_zero, List.getElem_cons_succ]
          refine wpAnyH_take (i := 2) (v := ?_) rfl (by kernel_rfl) (by kernel_rfl) (by kernel_rfl) (fun _ _ _ h => h) (Or.inl ⟨by rfl, ?_⟩) hHeld ?_
          rotate_left
          · intro w hSw
            have hSw1 := hSw
            clear hSw
            try dsimp only at hSw1
            go_simp
            try (with_reducible rfl)
          try simp only [Act.put, List.setIfInBounds_toArray, List.set_cons_zero, List.set_cons_succ, List.getElem_toArray, List.getElem_cons_zero, List.getElem_cons_succ]
          refine wpAnyH_take (i := 3) (v := ?_) rfl (by kernel_rfl) (by kernel_rfl) (by kernel_rfl) (fun _ _ _ h => h) (Or.inl ⟨by rfl, ?_⟩) hHeld ?_
          rotate_left
          · intro w hSw
            have hSw1 := hSw
            clear hSw
            try dsimp only at hSw1
            go_simp
            try (with_reducible rfl)
          try simp only [Act.put, List.setIfInBounds_toArray, List.set_cons_zero, List.set_cons_succ, List.getElem_toArray, List.getElem_cons_zero, List.getElem_cons_succ]
          refine wpAnyH_take (i := 4) (v := ?_) rfl (by kernel_rfl) (by kernel_rfl) (by kernel_rfl) (fun _ _ _ h => h) (Or.inl ⟨by rfl, ?_⟩) hHeld ?_
          rotate_left
          · intro w hSw
            have hSw1 := hSw
            clear hSw
            try dsimp only at hSw1
            go_simp
            try (with_reducible rfl)
          try simp only [Act.put, List.setIfInBounds_toArray, List.set_cons_zero, List.set_cons_succ, List.getElem_toArray, List.getElem_cons_zero, List.getElem_cons_succ]
          refine wpAnyH_take (i := 5) (v := ?_) rfl (by kernel_rfl) (by kernel_rfl) (by kernel_rfl) (fun _ _ _ h => h) (Or.inl ⟨by rfl, ?_⟩) hHeld ?_
          rotate_left
          · intro w hSw
            have hSw1 := hSw
            clear hSw
            try dsimp only at hSw1
            go_simp
            try (with_reducible rfl)
          try simp only [Act.put, List.setIfInBounds_toArray, List.set_cons_zero, List.set_cons_succ, List.getElem_toArray, List.getElem_cons_zero, List.getElem_cons_succ]
          refine wpAnyH_take (i := 7) (v := ?_) rfl (by kernel_rfl) (by kernel_rfl) (by kernel_rfl) (fun _ _ _ h => h) (Or.inl ⟨by rfl, ?_⟩) hHeld ?_
          rotate_left
          · intro w hSw
            have hSw1 := hSw
            clear hSw
            try dsimp only at hSw1
            go_simp
            try (with_reducible rfl)
          try simp only [Act.put, List.setIfInBounds_toArray, List.set_cons_zero, List.set_cons_succ, List.getElem_toArray, List.getElem_cons_zero, List.getElem_cons_succ]
          refine wpAnyH_take (i := 8) (v := ?_) rfl (by kernel_rfl) (by kernel_rfl) (by kernel_rfl) (fun _ _ _ h => h) (Or.inl ⟨by rfl, ?_⟩) hHeld ?_
          rotate_left
          · intro w hSw
            have hSw1 := hSw
            clear hSw
            try dsimp only at hSw1
            go_simp
            try (with_reducible rfl)
          try simp only [Act.put, List.setIfInBounds_toArray, List.set_cons_zero, List.set_cons_succ, List.getElem_toArray, List.getElem_cons_zero, List.getElem_cons_succ]
          refine wpAnyH_take (i := 9) (v := ?_) rfl (by kernel_rfl) (by kernel_rfl) (by kernel_rfl) (fun _ _ _ h => h) (Or.inl ⟨by rfl, ?_⟩) hHeld ?_
          rotate_left
          · intro w hSw
            have hSw1 := hSw
            clear hSw
            try dsimp only at hSw1
            go_simp
            try (with_reducible rfl)
          try simp only [Act.put, List.setIfInBounds_toArray, List.set_cons_zero, List.set_cons_succ, List.getElem_toArray, List.getElem_cons_zero, List.getElem_cons_succ]
          refine wpAnyH_take (i := 10) (v := ?_) rfl (by kernel_rfl) (by kernel_rfl) (by kernel_rfl) (fun _ _ _ h => h) (Or.inl ⟨by rfl, ?_⟩) hHeld ?_
          rotate_left
          · intro w hSw
            have hSw1 := hSw
            clear hSw
            try dsimp only at hSw1
            go_simp
            try (with_reducible rfl)
          try simp only [Act.put, List.setIfInBounds_toArray, List.set_cons_zero, List.set_cons_succ, List.getElem_toArray, List.getElem_cons_zero, List.getElem_cons_succ]
          refine wpAnyH_take (i := 11) (v := ?_) rfl (by kernel_rfl) (by kernel_rfl) (by kernel_rfl) (fun _ _ _ h => h) (Or.inl ⟨by rfl, ?_⟩) hHeld ?_
          rotate_left
          · intro w hSw
            have hSw1 := hSw
            clear hSw
            try dsimp only at hSw1
            go_simp
            try (with_reducible rfl)
          try simp only [Act.put, List.setIfInBounds_toArray, List.set_cons_zero, List.set_cons_succ, List.getElem_toArray, List.getElem_cons_zero, List.getElem_cons_succ]
          refine wpAnyH_take (i := 12) (v := ?_) rfl (by kernel_rfl) (by kernel_rfl) (by kernel_rfl) (fun _ _ _ h => h) (Or.inl ⟨by rfl, ?_⟩) hHeld ?_
          rotate_left
          · intro w hSw
            have hSw1 := hSw
            clear hSw
            try dsimp only at hSw1
            go_simp
            try (with_reducible rfl)
          try simp only [Act.put, List.setIfInBounds_toArray, List.set_cons_zero, List.set_cons_succ, List.getElem_toArray, List.getElem_cons_zero, List.getElem_cons_succ]
          refine wpAnyH_ready (rs := [6]) (by kernel_rfl) (by simp) ?_
          refine AllReadyH.cons rfl (fun K hK => ?_) AllReadyH.nil
          go_simp
          refine (rtext_any p st x.2 wr.drew HW.out.1 (by omega)).mono ?_; rintro e w6 ⟨rfl, hr6, k6⟩; have K6 := Lib.hid (And.intro hr6 k6); clear hr6 k6
          go_wp2_with fail
          refine hK.out _ _ (K6.out.2.cell hHeld (by simp; exact hgp)) (fun hHeld2 => ?_)
          clear hK K hHeld
          try simp only [Act.put, List.setIfInBounds_toArray, List.set_cons_zero, List.set_cons_succ, List.getElem_toArray, List.getElem_cons_zero, List.getElem_cons_succ]
          refine wpAnyH_ready (rs := [13]) (by kernel_rfl) (by simp) ?_
          refine AllReadyH.cons rfl (fun K hK => ?_) AllReadyH.nil
          go_simp
          refine (refText_any q st x.2 w6 (Ref.step (show Ref wr.drew q st from HW.out.2.1) K6.out.2 (by simp; exact hqp)) (by omega)).mono ?_; rintro e W ⟨rfl, hr7, k7⟩; have K7 := Lib.hid (And.intro hr7 k7); clear hr7 k7
          go_wp2_with fail
          refine hK.out _ _ (K7.out.2.cell hHeld2 (by simp; exact hgq)) (fun hHeld3 => ?_)
          clear hK K hHeld2
          try simp only [Act.put, List.setIfInBounds_toArray, List.set_cons_zero, List.set_cons_succ, List.getElem_toArray, List.getElem_cons_zero, List.getElem_cons_succ]
          refine wpAnyH_take (i := 14) (v := ?_) rfl (by kernel_rfl) (by kernel_rfl) (by kernel_rfl) (fun _ _ _ h => h) (Or.inl ⟨by rfl, ?_⟩) hHeld3 ?_
          rotate_left
          · intro w hSw
            have hSw1 := hSw
            clear hSw
            try dsimp only at hSw1
            go_simp
            try (with_reducible rfl)
          try simp only [Act.put, List.setIfInBounds_toArray, List.set_cons_zero, List.set_cons_succ, List.getElem_toArray, List.getElem_cons_zero, List.getElem_cons_succ]
          refine wpAnyH_take (i := 15) (v := ?_) rfl (by kernel_rfl) (by kernel_rfl) (by kernel_rfl) (fun _ _ _ h => h) (Or.inl ⟨by rfl, ?_⟩) hHeld3 ?_
          rotate_left
          · intro w hSw
            have hSw1 := hSw
            clear hSw
            try dsimp only at hSw1
            go_simp
            try (with_reducible rfl)
          try simp only [Act.put, List.setIfInBounds_toArray, List.set_cons_zero, List.set_cons_succ, List.getElem_toArray, List.getElem_cons_zero, List.getElem_cons_succ]
          refine wpAnyH_take (i := 16) (v := ?_) rfl (by kernel_rfl) (by kernel_rfl) (by kernel_rfl) (fun _ _ _ h => h) (Or.inl ⟨by rfl, ?_⟩) hHeld3 ?_
          rotate_left
          · intro w hSw
            have hSw1 := hSw
            clear hSw
            try dsimp only at hSw1
            go_simp
            try (with_reducible rfl)
          try simp only [Act.put, List.setIfInBounds_toArray, List.set_cons_zero, List.set_cons_succ, List.getElem_toArray, List.getElem_cons_zero, List.getElem_cons_succ]
          refine wpAnyH_ready (rs := [17]) (by kernel_rfl) (by simp) ?_
          refine AllReadyH.cons rfl (fun K hK => ?_) AllReadyH.nil
          go_simp
          refine (rtext_nil 9 W).mono ?_; rintro e w8 ⟨rfl, rfl⟩
          go_wp2_with fail
          refine hK.out _ _ (hHeld3) (fun hHeld4 => ?_)
          clear hK K hHeld3
          try simp only [Act.put, List.setIfInBounds_toArray, List.set_cons_zero, List.set_cons_succ, List.getElem_toArray, List.getElem_cons_zero, List.getElem_cons_succ]
          refine wpAnyH_take (i := 18) (v := ?_) rfl (by kernel_rfl) (by kernel_rfl) (by kernel_rfl) (fun _ _ _ h => h) (Or.inl ⟨by rfl, ?_⟩) hHeld4 ?_
          rotate_left
          · intro w hSw
            have hSw1 := hSw
            clear hSw
            try dsimp only at hSw1
            go_simp
            try (with_reducible rfl)
          try simp only [Act.put, List.setIfInBounds_toArray, List.set_cons_zero, List.set_cons_succ, List.getElem_toArray, List.getElem_cons_zero, List.getElem_cons_succ]
          refine wpAnyH_take (i := 19) (v := ?_) rfl (by kernel_rfl) (by kernel_rfl) (by kernel_rfl) (fun _ _ _ h => h) (Or.inl ⟨by rfl, ?_⟩) hHeld4 ?_
          rotate_left
          · intro w hSw
            have hSw1 := hSw
            clear hSw
            try dsimp only at hSw1
            go_simp
            try (with_reducible rfl)
          try simp only [Act.put, List.setIfInBounds_toArray, List.set_cons_zero, List.set_cons_succ, List.getElem_toArray, List.getElem_cons_zero, List.getElem_cons_succ]
          refine wpAnyH_take (i := 20) (v := ?_) rfl (by kernel_rfl) (by kernel_rfl) (by kernel_rfl) (fun _ _ _ h => h) (Or.inl ⟨by rfl, ?_⟩) hHeld4 ?_
          rotate_left
          · intro w hSw
            have hSw1 := hSw
            clear hSw
            try dsimp only at hSw1
            go_simp
            try (with_reducible rfl)
          try simp only [Act.put, List.setIfInBounds_toArray, List.set_cons_zero, List.set_cons_succ, List.getElem_toArray, List.getElem_cons_zero, List.getElem_cons_succ]
          refine wpAnyH_done (by kernel_rfl) ?_ _
          obtain ⟨T, hTT⟩ : ∃ T, T = (rtext st x.2).2 := ⟨_, rfl⟩
          have hTl : T.s.length ≤ 100000 := by rw [hTT]; exact Nat.le_trans ((rtext_len st x.2).2) HW.out.2.2.1
          have HT : Hid (Rdr W p T ∧ Ref W q T ∧ Step [] [p, q] w W) := by
            rw [hTT]
            exact ⟨Blk.step K6.out.1 K7.out.2 (by simp; exact hpq), K7.out.1, (HW.out.2.2.2.drew.trans (K6.out.2.frameR [q])).trans (K7.out.2.frame [p])⟩
          clear hTT
          have HLft : ∀ n, Calls Try.prog 17 #[.pointer (some ⟨p, 0, none⟩)] (W.drewN n) fun e w'' => e = .returned (.int .i64 T.s.length) ∧ ∃ m, w'' = W.drewN m := fun n => (left_any p T (W.drewN n) HT.out.1).mono fun _ _ ⟨he, hm⟩ => ⟨he, n, hm.symm⟩
          have hc0 := HT.out.2.1.c0
          have hEn : rend T = 0 ∨ rend T = 3 := by unfold rend; split <;> simp
          rcases hEn with hEn | hEn
          · have HEnd : ∀ n, Calls Try.prog 20 #[.pointer (some ⟨p, 0, none⟩)] (W.drewN n) fun e w'' => e = .returned (.int .i64 0) ∧ ∃ m, w'' = W.drewN m := fun n => by
              rw [← hEn]; exact (end_any p T (W.drewN n) HT.out.1).mono fun _ _ ⟨he, hm⟩ => ⟨he, n, hm.symm⟩
            have HDn : ∀ n, Calls Try.prog 26 #[.pointer (some ⟨q, 0, none⟩)] (W.drewN n) fun e w'' => e = .returned (.bool true) ∧ ∃ m, w'' = W.drewN m := fun n => by
              have := refDone_any q T (W.drewN n) HT.out.2.1 (by omega)
              rw [hEn] at this
              exact this.mono fun _ _ ⟨he, hm⟩ => ⟨he, n, hm.symm⟩
            go_wp2_with fail
            refine wp_region_quiet_lit (by kernel_rfl) (by kernel_rfl) ?_
            repeat go_big_quiet_step (first | with_reducible exact HLft _ | with_reducible exact HEnd _ | with_reducible exact HDn _)
            refine wpQuiet_nil ?_
            intro W2 hw'
            obtain ⟨nq, hW2⟩ := hw'
            have HW2 := Lib.hid hW2
            clear hW2
            go_wp2_with fail
            go_roundw
            case rel =>
              refine ⟨k + 1, T, by omega, by omega, by go_num, ?_⟩
              rw [HW2.out]
              exact ⟨HT.out.1, HT.out.2.1, hTl, HT.out.2.2.drewN _⟩
            case measure => simp [intOf]; omega
          · have HEnd : ∀ n, Calls Try.prog 20 #[.pointer (some ⟨p, 0, none⟩)] (W.drewN n) fun e w'' => e = .returned (.int .i64 3) ∧ ∃ m, w'' = W.drewN m := fun n => by
              rw [← hEn]; exact (end_any p T (W.drewN n) HT.out.1).mono fun _ _ ⟨he, hm⟩ => ⟨he, n, hm.symm⟩
            have HDn : ∀ n, Calls Try.prog 26 #[.pointer (some ⟨q, 0, none⟩)] (W.drewN n) fun e w'' => e = .returned (.bool false) ∧ ∃ m, w'' = W.drewN m := fun n => by
              have := refDone_any q T (W.drewN n) HT.out.2.1 (by omega)
              rw [hEn] at this
              exact this.mono fun _ _ ⟨he, hm⟩ => ⟨he, n, hm.symm⟩
            go_wp2_with fail
            refine wp_region_quiet_lit (by kernel_rfl) (by kernel_rfl) ?_
            repeat go_big_quiet_step (first | with_reducible exact HLft _ | with_reducible exact HEnd _ | with_reducible exact HDn _)
            refine wpQuiet_nil ?_
            intro W2 hw'
            obtain ⟨nq, hW2⟩ := hw'
            have HW2 := Lib.hid hW2
            clear hW2
            go_wp2_with fail
            go_roundw
            case rel =>
              refine ⟨k + 1, T, by omega, by omega, by go_num, ?_⟩
              rw [HW2.out]
              exact ⟨HT.out.1, HT.out.2.1, hTl, HT.out.2.2.drewN _⟩
            case measure => simp [intOf]; omega
        by_cases h2 : x.1 = 2
        · rw [h2] at cx0
          go_wp2_with fail
          refine (rflag_any p st _ HW.out.1 (by omega)).mono ?_
          rintro e w6 ⟨rfl, hr6, k6⟩
          have K6 := Lib.hid (And.intro hr6 k6)
          clear hr6 k6
          obtain ⟨v, hv⟩ : ∃ v, v = rflag st := ⟨_, rfl⟩
          rw [← hv]
          rw [← hv] at K6
          go_wp2_with fail
          refine (refFlag_any q st _ (Ref.step HW.out.2.1 K6.out.2 (by simp; exact hqp)) (by omega)).mono ?_
          rintro e W ⟨rfl, hr7, k7⟩
          have K7 := Lib.hid (And.intro hr7 k7)
          clear hr7 k7
          rw [← hv]
          rw [← hv] at K7
          have hTl : v.2.s.length ≤ 100000 := by rw [hv]; exact Nat.le_trans (upto_len st 1) HW.out.2.2.1
          clear hv
          go_wp2_with fail
          refine (rflag_nil _).mono ?_
          rintro e w8 ⟨rfl, rfl⟩
          obtain ⟨T, hTT⟩ : ∃ T, T = v.2 := ⟨_, rfl⟩
          have HT : Hid (Rdr W p T ∧ Ref W q T ∧ Step [] [p, q] w W) := by
            rw [hTT]
            exact ⟨Blk.step K6.out.1 K7.out.2 (by simp; exact hpq), K7.out.1, (HW.out.2.2.2.trans (K6.out.2.frameR [q])).trans (K7.out.2.frame [p])⟩
          rw [← hTT] at hTl
          clear hTT
          have HLft : ∀ n, Calls Try.prog 17 #[.pointer (some ⟨p, 0, none⟩)] (W.drewN n) fun e w'' => e = .returned (.int .i64 T.s.length) ∧ ∃ m, w'' = W.drewN m := fun n => (left_any p T (W.drewN n) HT.out.1).mono fun _ _ ⟨he, hm⟩ => ⟨he, n, hm.symm⟩
          have hc0 := HT.out.2.1.c0
          have hEn : rend T = 0 ∨ rend T = 3 := by unfold rend; split <;> simp
          rcases hEn with hEn | hEn
          · have HEnd : ∀ n, Calls Try.prog 20 #[.pointer (some ⟨p, 0, none⟩)] (W.drewN n) fun e w'' => e = .returned (.int .i64 0) ∧ ∃ m, w'' = W.drewN m := fun n => by
              rw [← hEn]; exact (end_any p T (W.drewN n) HT.out.1).mono fun _ _ ⟨he, hm⟩ => ⟨he, n, hm.symm⟩
            have HDn : ∀ n, Calls Try.prog 26 #[.pointer (some ⟨q, 0, none⟩)] (W.drewN n) fun e w'' => e = .returned (.bool true) ∧ ∃ m, w'' = W.drewN m := fun n => by
              have := refDone_any q T (W.drewN n) HT.out.2.1 (by omega)
              rw [hEn] at this
              exact this.mono fun _ _ ⟨he, hm⟩ => ⟨he, n, hm.symm⟩
            go_wp2_with fail
            refine wp_region_quiet_lit (by kernel_rfl) (by kernel_rfl) ?_
            repeat go_big_quiet_step (first | with_reducible exact HLft _ | with_reducible exact HEnd _ | with_reducible exact HDn _)
            refine wpQuiet_nil ?_
            intro W2 hw'
            obtain ⟨nq, hW2⟩ := hw'
            have HW2 := Lib.hid hW2
            clear hW2
            go_wp2_with fail
            go_roundw
            case rel =>
              refine ⟨k + 1, T, by omega, by omega, by go_num, ?_⟩
              rw [HW2.out]
              exact ⟨HT.out.1, HT.out.2.1, hTl, HT.out.2.2.drewN _⟩
            case measure => simp [intOf]; omega
          · have HEnd : ∀ n, Calls Try.prog 20 #[.pointer (some ⟨p, 0, none⟩)] (W.drewN n) fun e w'' => e = .returned (.int .i64 3) ∧ ∃ m, w'' = W.drewN m := fun n => by
              rw [← hEn]; exact (end_any p T (W.drewN n) HT.out.1).mono fun _ _ ⟨he, hm⟩ => ⟨he, n, hm.symm⟩
            have HDn : ∀ n, Calls Try.prog 26 #[.pointer (some ⟨q, 0, none⟩)] (W.drewN n) fun e w'' => e = .returned (.bool false) ∧ ∃ m, w'' = W.drewN m := fun n => by
              have := refDone_any q T (W.drewN n) HT.out.2.1 (by omega)
              rw [hEn] at this
              exact this.mono fun _ _ ⟨he, hm⟩ => ⟨he, n, hm.symm⟩
            go_wp2_with fail
            refine wp_region_quiet_lit (by kernel_rfl) (by kernel_rfl) ?_
            repeat go_big_quiet_step (first | with_reducible exact HLft _ | with_reducible exact HEnd _ | with_reducible exact HDn _)
            refine wpQuiet_nil ?_
            intro W2 hw'
            obtain ⟨nq, hW2⟩ := hw'
            have HW2 := Lib.hid hW2
            clear hW2
            go_wp2_with fail
            go_roundw
            case rel =>
              refine ⟨k + 1, T, by omega, by omega, by go_num, ?_⟩
              rw [HW2.out]
              exact ⟨HT.out.1, HT.out.2.1, hTl, HT.out.2.2.drewN _⟩
            case measure => simp [intOf]; omega
        · have e0 : (x.1 == 0) = false := by simpa using h0
          have e1 : (x.1 == 1) = false := by simpa using h1
          have e2 : (x.1 == 2) = false := by simpa using h2
          clear h0 h1 h2
          go_wp2_with fail
          refine wp_region_held_drew (S := fun w => w.cell? ⟨g, off + k * 2 + 1, none⟩ = some (.int .i64 x.2)) (by kernel_rfl) (cx1) (fun hHeld => ?_)
          refine wpAnyH_take (i := 0) (v := ?_) rfl (by kernel_rfl) (by kernel_rfl) (by kernel_rfl) (fun _ _ _ h => h) (Or.inl ⟨by rfl, ?_⟩) hHeld ?_
          rotate_left
          · intro w hSw
            have hSw1 := hSw
            clear hSw
            try dsimp only at hSw1
            go_simp
            try (with_reducible rfl)
          try simp only [Act.put, List.setIfInBounds_toArray, List.set_cons_zero, List.set_cons_succ, List.getElem_toArray, List.getElem_cons_zero, List.getElem_cons_succ]
          refine wpAnyH_take (i := 1) (v := ?_) rfl (by kernel_rfl) (by kernel_rfl) (by kernel_rfl) (fun _ _ _ h => h) (Or.inl ⟨by rfl, ?_⟩) hHeld ?_
          rotate_left
          · intro w hSw
            have hSw1 := hSw
            clear hSw
            try dsimp only at hSw1
            go_simp
            try (with_reducible rfl)
          try simp only [Act.put, List.setIfInBounds_toArray, List.set_cons_zero, List.set_cons_succ, List.getElem_toArray, List.getElem_cons_zero, List.getElem_cons_succ]
          refine wpAnyH_take (i := 2) (v := ?_) rfl (by kernel_rfl) (by kernel_rfl) (by kernel_rfl) (fun _ _ _ h => h) (Or.inl ⟨by rfl, ?_⟩) hHeld ?_
          rotate_left
          · intro w hSw
            have hSw1 := hSw
            clear hSw
            try dsimp only at hSw1
            go_simp
            try (with_reducible rfl)
          try simp only [Act.put, List.setIfInBounds_toArray, List.set_cons_zero, List.set_cons_succ, List.getElem_toArray, List.getElem_cons_zero, List.getElem_cons_succ]
          refine wpAnyH_take (i := 3) (v := ?_) rfl (by kernel_rfl) (by kernel_rfl) (by kernel_rfl) (fun _ _ _ h => h) (Or.inl ⟨by rfl, ?_⟩) hHeld ?_
          rotate_left
          · intro w hSw
            have hSw1 := hSw
            clear hSw
            try dsimp only at hSw1
            go_simp
            try (with_reducible rfl)
          try simp only [Act.put, List.setIfInBounds_toArray, List.set_cons_zero, List.set_cons_succ, List.getElem_toArray, List.getElem_cons_zero, List.getElem_cons_succ]
          refine wpAnyH_take (i := 4) (v := ?_) rfl (by kernel_rfl) (by kernel_rfl) (by kernel_rfl) (fun _ _ _ h => h) (Or.inl ⟨by rfl, ?_⟩) hHeld ?_
          rotate_left
          · intro w hSw
            have hSw1 := hSw
            clear hSw
            try dsimp only at hSw1
            go_simp
            try (with_reducible rfl)
          try simp only [Act.put, List.setIfInBounds_toArray, List.set_cons_zero, List.set_cons_succ, List.getElem_toArray, List.getElem_cons_zero, List.getElem_cons_succ]
          refine wpAnyH_take (i := 5) (v := ?_) rfl (by kernel_rfl) (by kernel_rfl) (by kernel_rfl) (fun _ _ _ h => h) (Or.inl ⟨by rfl, ?_⟩) hHeld ?_
          rotate_left
          · intro w hSw
            have hSw1 := hSw
            clear hSw
            try dsimp only at hSw1
            go_simp
            try (with_reducible rfl)
          try simp only [Act.put, List.setIfInBounds_toArray, List.set_cons_zero, List.set_cons_succ, List.getElem_toArray, List.getElem_cons_zero, List.getElem_cons_succ]
          refine wpAnyH_take (i := 7) (v := ?_) rfl (by kernel_rfl) (by kernel_rfl) (by kernel_rfl) (fun _ _ _ h => h) (Or.inl ⟨by rfl, ?_⟩) hHeld ?_
          rotate_left
          · intro w hSw
            have hSw1 := hSw
            clear hSw
            try dsimp only at hSw1
            go_simp
            try (with_reducible rfl)
          try simp only [Act.put, List.setIfInBounds_toArray, List.set_cons_zero, List.set_cons_succ, List.getElem_toArray, List.getElem_cons_zero, List.getElem_cons_succ]
          refine wpAnyH_take (i := 8) (v := ?_) rfl (by kernel_rfl) (by kernel_rfl) (by kernel_rfl) (fun _ _ _ h => h) (Or.inl ⟨by rfl, ?_⟩) hHeld ?_
          rotate_left
          · intro w hSw
            have hSw1 := hSw
            clear hSw
            try dsimp only at hSw1
            go_simp
            try (with_reducible rfl)
          try simp only [Act.put, List.setIfInBounds_toArray, List.set_cons_zero, List.set_cons_succ, List.getElem_toArray, List.getElem_cons_zero, List.getElem_cons_succ]
          refine wpAnyH_take (i := 9) (v := ?_) rfl (by kernel_rfl) (by kernel_rfl) (by kernel_rfl) (fun _ _ _ h => h) (Or.inl ⟨by rfl, ?_⟩) hHeld ?_
          rotate_left
          · intro w hSw
            have hSw1 := hSw
            clear hSw
            try dsimp only at hSw1
            go_simp
            try (with_reducible rfl)
          try simp only [Act.put, List.setIfInBounds_toArray, List.set_cons_zero, List.set_cons_succ, List.getElem_toArray, List.getElem_cons_zero, List.getElem_cons_succ]
          refine wpAnyH_take (i := 10) (v := ?_) rfl (by kernel_rfl) (by kernel_rfl) (by kernel_rfl) (fun _ _ _ h => h) (Or.inl ⟨by rfl, ?_⟩) hHeld ?_
          rotate_left
          · intro w hSw
            have hSw1 := hSw
            clear hSw
            try dsimp only at hSw1
            go_simp
            try (with_reducible rfl)
          try simp only [Act.put, List.setIfInBounds_toArray, List.set_cons_zero, List.set_cons_succ, List.getElem_toArray, List.getElem_cons_zero, List.getElem_cons_succ]
          refine wpAnyH_take (i := 11) (v := ?_) rfl (by kernel_rfl) (by kernel_rfl) (by kernel_rfl) (fun _ _ _ h => h) (Or.inl ⟨by rfl, ?_⟩) hHeld ?_
          rotate_left
          · intro w hSw
            have hSw1 := hSw
            clear hSw
            try dsimp only at hSw1
            go_simp
            try (with_reducible rfl)
          try simp only [Act.put, List.setIfInBounds_toArray, List.set_cons_zero, List.set_cons_succ, List.getElem_toArray, List.getElem_cons_zero, List.getElem_cons_succ]
          refine wpAnyH_take (i := 12) (v := ?_) rfl (by kernel_rfl) (by kernel_rfl) (by kernel_rfl) (fun _ _ _ h => h) (Or.inl ⟨by rfl, ?_⟩) hHeld ?_
          rotate_left
          · intro w hSw
            have hSw1 := hSw
            clear hSw
            try dsimp only at hSw1
            go_simp
            try (with_reducible rfl)
          try simp only [Act.put, List.setIfInBounds_toArray, List.set_cons_zero, List.set_cons_succ, List.getElem_toArray, List.getElem_cons_zero, List.getElem_cons_succ]
          refine wpAnyH_ready (rs := [6]) (by kernel_rfl) (by simp) ?_
          refine AllReadyH.cons rfl (fun K hK => ?_) AllReadyH.nil
          go_simp
          refine (upto_any p st x.2 wr.drew HW.out.1 (by omega)).mono ?_; rintro e w6 ⟨rfl, hr6, k6⟩; have K6 := Lib.hid (And.intro hr6 k6); clear hr6 k6
          go_wp2_with fail
          refine hK.out _ _ (K6.out.2.cell hHeld (by simp; exact hgp)) (fun hHeld2 => ?_)
          clear hK K hHeld
          try simp only [Act.put, List.setIfInBounds_toArray, List.set_cons_zero, List.set_cons_succ, List.getElem_toArray, List.getElem_cons_zero, List.getElem_cons_succ]
          refine wpAnyH_ready (rs := [13]) (by kernel_rfl) (by simp) ?_
          refine AllReadyH.cons rfl (fun K hK => ?_) AllReadyH.nil
          go_simp
          refine (refNum_any q st x.2 w6 (Ref.step (show Ref wr.drew q st from HW.out.2.1) K6.out.2 (by simp; exact hqp)) (by omega)).mono ?_; rintro e W ⟨rfl, hr7, k7⟩; have K7 := Lib.hid (And.intro hr7 k7); clear hr7 k7
          go_wp2_with fail
          refine hK.out _ _ (K7.out.2.cell hHeld2 (by simp; exact hgq)) (fun hHeld3 => ?_)
          clear hK K hHeld2
          try simp only [Act.put, List.setIfInBounds_toArray, List.set_cons_zero, List.set_cons_succ, List.getElem_toArray, List.getElem_cons_zero, List.getElem_cons_succ]
          refine wpAnyH_take (i := 14) (v := ?_) rfl (by kernel_rfl) (by kernel_rfl) (by kernel_rfl) (fun _ _ _ h => h) (Or.inl ⟨by rfl, ?_⟩) hHeld3 ?_
          rotate_left
          · intro w hSw
            have hSw1 := hSw
            clear hSw
            try dsimp only at hSw1
            go_simp
            try (with_reducible rfl)
          try simp only [Act.put, List.setIfInBounds_toArray, List.set_cons_zero, List.set_cons_succ, List.getElem_toArray, List.getElem_cons_zero, List.getElem_cons_succ]
          refine wpAnyH_take (i := 15) (v := ?_) rfl (by kernel_rfl) (by kernel_rfl) (by kernel_rfl) (fun _ _ _ h => h) (Or.inl ⟨by rfl, ?_⟩) hHeld3 ?_
          rotate_left
          · intro w hSw
            have hSw1 := hSw
            clear hSw
            try dsimp only at hSw1
            go_simp
            try (with_reducible rfl)
          try simp only [Act.put, List.setIfInBounds_toArray, List.set_cons_zero, List.set_cons_succ, List.getElem_toArray, List.getElem_cons_zero, List.getElem_cons_succ]
          refine wpAnyH_take (i := 16) (v := ?_) rfl (by kernel_rfl) (by kernel_rfl) (by kernel_rfl) (fun _ _ _ h => h) (Or.inl ⟨by rfl, ?_⟩) hHeld3 ?_
          rotate_left
          · intro w hSw
            have hSw1 := hSw
            clear hSw
            try dsimp only at hSw1
            go_simp
            try (with_reducible rfl)
          try simp only [Act.put, List.setIfInBounds_toArray, List.set_cons_zero, List.set_cons_succ, List.getElem_toArray, List.getElem_cons_zero, List.getElem_cons_succ]
          refine wpAnyH_ready (rs := [17]) (by kernel_rfl) (by simp) ?_
          refine AllReadyH.cons rfl (fun K hK => ?_) AllReadyH.nil
          go_simp
          refine (upto_nil 9 W).mono ?_; rintro e w8 ⟨rfl, rfl⟩
          go_wp2_with fail
          refine hK.out _ _ (hHeld3) (fun hHeld4 => ?_)
          clear hK K hHeld3
          try simp only [Act.put, List.setIfInBounds_toArray, List.set_cons_zero, List.set_cons_succ, List.getElem_toArray, List.getElem_cons_zero, List.getElem_cons_succ]
          refine wpAnyH_take (i := 18) (v := ?_) rfl (by kernel_rfl) (by kernel_rfl) (by kernel_rfl) (fun _ _ _ h => h) (Or.inl ⟨by rfl, ?_⟩) hHeld4 ?_
          rotate_left
          · intro w hSw
            have hSw1 := hSw
            clear hSw
            try dsimp only at hSw1
            go_simp
            try (with_reducible rfl)
          try simp only [Act.put, List.setIfInBounds_toArray, List.set_cons_zero, List.set_cons_succ, List.getElem_toArray, List.getElem_cons_zero, List.getElem_cons_succ]
          refine wpAnyH_take (i := 19) (v := ?_) rfl (by kernel_rfl) (by kernel_rfl) (by kernel_rfl) (fun _ _ _ h => h) (Or.inl ⟨by rfl, ?_⟩) hHeld4 ?_
          rotate_left
          · intro w hSw
            have hSw1 := hSw
            clear hSw
            try dsimp only at hSw1
            go_simp
            try (with_reducible rfl)
          try simp only [Act.put, List.setIfInBounds_toArray, List.set_cons_zero, List.set_cons_succ, List.getElem_toArray, List.getElem_cons_zero, List.getElem_cons_succ]
          refine wpAnyH_take (i := 20) (v := ?_) rfl (by kernel_rfl) (by kernel_rfl) (by kernel_rfl) (fun _ _ _ h => h) (Or.inl ⟨by rfl, ?_⟩) hHeld4 ?_
          rotate_left
          · intro w hSw
            have hSw1 := hSw
            clear hSw
            try dsimp only at hSw1
            go_simp
            try (with_reducible rfl)
          try simp only [Act.put, List.setIfInBounds_toArray, List.set_cons_zero, List.set_cons_succ, List.getElem_toArray, List.getElem_cons_zero, List.getElem_cons_succ]
          refine wpAnyH_done (by kernel_rfl) ?_ _
          obtain ⟨T, hTT⟩ : ∃ T, T = (upto st x.2).2 := ⟨_, rfl⟩
          have hTl : T.s.length ≤ 100000 := by rw [hTT]; exact Nat.le_trans (upto_len st x.2) HW.out.2.2.1
          have HT : Hid (Rdr W p T ∧ Ref W q T ∧ Step [] [p, q] w W) := by
            rw [hTT]
            exact ⟨Blk.step K6.out.1 K7.out.2 (by simp; exact hpq), K7.out.1, (HW.out.2.2.2.drew.trans (K6.out.2.frameR [q])).trans (K7.out.2.frame [p])⟩
          clear hTT
          have HLft : ∀ n, Calls Try.prog 17 #[.pointer (some ⟨p, 0, none⟩)] (W.drewN n) fun e w'' => e = .returned (.int .i64 T.s.length) ∧ ∃ m, w'' = W.drewN m := fun n => (left_any p T (W.drewN n) HT.out.1).mono fun _ _ ⟨he, hm⟩ => ⟨he, n, hm.symm⟩
          have hc0 := HT.out.2.1.c0
          have hEn : rend T = 0 ∨ rend T = 3 := by unfold rend; split <;> simp
          rcases hEn with hEn | hEn
          · have HEnd : ∀ n, Calls Try.prog 20 #[.pointer (some ⟨p, 0, none⟩)] (W.drewN n) fun e w'' => e = .returned (.int .i64 0) ∧ ∃ m, w'' = W.drewN m := fun n => by
              rw [← hEn]; exact (end_any p T (W.drewN n) HT.out.1).mono fun _ _ ⟨he, hm⟩ => ⟨he, n, hm.symm⟩
            have HDn : ∀ n, Calls Try.prog 26 #[.pointer (some ⟨q, 0, none⟩)] (W.drewN n) fun e w'' => e = .returned (.bool true) ∧ ∃ m, w'' = W.drewN m := fun n => by
              have := refDone_any q T (W.drewN n) HT.out.2.1 (by omega)
              rw [hEn] at this
              exact this.mono fun _ _ ⟨he, hm⟩ => ⟨he, n, hm.symm⟩
            go_wp2_with fail
            refine wp_region_quiet_lit (by kernel_rfl) (by kernel_rfl) ?_
            repeat go_big_quiet_step (first | with_reducible exact HLft _ | with_reducible exact HEnd _ | with_reducible exact HDn _)
            refine wpQuiet_nil ?_
            intro W2 hw'
            obtain ⟨nq, hW2⟩ := hw'
            have HW2 := Lib.hid hW2
            clear hW2
            go_wp2_with fail
            go_roundw
            case rel =>
              refine ⟨k + 1, T, by omega, by omega, by go_num, ?_⟩
              rw [HW2.out]
              exact ⟨HT.out.1, HT.out.2.1, hTl, HT.out.2.2.drewN _⟩
            case measure => simp [intOf]; omega
          · have HEnd : ∀ n, Calls Try.prog 20 #[.pointer (some ⟨p, 0, none⟩)] (W.drewN n) fun e w'' => e = .returned (.int .i64 3) ∧ ∃ m, w'' = W.drewN m := fun n => by
              rw [← hEn]; exact (end_any p T (W.drewN n) HT.out.1).mono fun _ _ ⟨he, hm⟩ => ⟨he, n, hm.symm⟩
            have HDn : ∀ n, Calls Try.prog 26 #[.pointer (some ⟨q, 0, none⟩)] (W.drewN n) fun e w'' => e = .returned (.bool false) ∧ ∃ m, w'' = W.drewN m := fun n => by
              have := refDone_any q T (W.drewN n) HT.out.2.1 (by omega)
              rw [hEn] at this
              exact this.mono fun _ _ ⟨he, hm⟩ => ⟨he, n, hm.symm⟩
            go_wp2_with fail
            refine wp_region_quiet_lit (by kernel_rfl) (by kernel_rfl) ?_
            repeat go_big_quiet_step (first | with_reducible exact HLft _ | with_reducible exact HEnd _ | with_reducible exact HDn _)
            refine wpQuiet_nil ?_
            intro W2 hw'
            obtain ⟨nq, hW2⟩ := hw'
            have HW2 := Lib.hid hW2
            clear hW2
            go_wp2_with fail
            go_roundw
            case rel =>
              refine ⟨k + 1, T, by omega, by omega, by go_num, ?_⟩
              rw [HW2.out]
              exact ⟨HT.out.1, HT.out.2.1, hTl, HT.out.2.2.drewN _⟩
            case measure => simp [intOf]; omega
      · have h200' : ¬ (k : Int) < 200 := by omega
        go_wp2_with fail
        refine (left_nil _).mono ?_
        rintro e w8 ⟨rfl, rfl⟩
        go_wp2_with fail
        refine (end_nil _).mono ?_
        rintro e w8 ⟨rfl, rfl⟩
        go_wp2_with fail
        go_ret
        exact ⟨rfl, HW.out.2.2.2.drop (by simp)⟩
    · have hlt' : ¬ (k : Int) < asks.length := by omega
      go_wp2_with fail
      refine (left_nil _).mono ?_
      rintro e w8 ⟨rfl, rfl⟩
      go_wp2_with fail
      refine (end_nil _).mono ?_
      rintro e w8 ⟨rfl, rfl⟩
      go_wp2_with fail
      go_ret
      exact ⟨rfl, HW.out.2.2.2.drop (by simp)⟩

set_option maxHeartbeats 400000 in
theorem reads_great (s : List UInt8) (v : Value) (w : World) (hs : 100000 < s.length) :
    Calls Try.prog 6 #[Str s, v] w fun e w' => e = .returned (.bool true) ∧ Step [] [] w w' := by
  have hs' : (100000 : Int) < s.length := by omega
  clear hs
  go_enter Try.func6, Try.ntmps6
  go_wp2_with fail
  refine (awake_true w).mono ?_
  rintro e w1 ⟨rfl, k1⟩
  go_wp2_with fail
  go_ret
  exact ⟨rfl, k1⟩

theorem PackReads_walk (v0 v1 : Value) (w : World) {b0 b1 : Nat} (hv0 : Value.okWide Try.prog w .any b0 9 v0) (h0 : Op Try.prog w 9 v0.cells.toList) (hv1 : Value.okWide Try.prog w .any b1 49 v1) (h1 : Op Try.prog w 49 v1.cells.toList) :
    Calls Try.prog 6 #[v0, v1] w fun e w' => e = .returned (.bool true) ∧ Below w.heap.size w w' := by
  obtain ⟨s, rfl⟩ := okWide_string Try.underlying9 hv0
  obtain ⟨a, n, cap, rfl⟩ := okWide_slice Try.underlying49 hv1
  obtain ⟨l, e, _⟩ := h0.str Try.underlying9
  simp [Value.cells] at e
  subst e
  obtain ⟨a', n', cap', e, g1, g2, g3, g4⟩ := h1.slice Try.underlying49 (sz := 2) (by kernel_rfl)
  simp [Value.cells] at e
  obtain ⟨rfl, rfl, rfl⟩ := e
  have hc1 : Try.prog.cellsOf 3 = 1 := by kernel_rfl
  have hc2 : Try.prog.cellsOf 53 = 2 := by kernel_rfl
  obtain ⟨ts, hts, hrd, _⟩ := rd_of (w := w) (fun x : Int × Int => [Value.int .i64 x.1, Value.int .i64 x.2]) 2 (by omega) (fun _ => rfl) (fun _ => True) (n := n) (a := a) (fun i hi => by
    obtain ⟨cs', hl', hc, ho⟩ := g4 i hi
    obtain ⟨hlen, hel⟩ := ho.array Try.underlying53
    have e0 := hel 0 (by omega)
    have e1 := hel 1 (by omega)
    rw [hc1] at e0 e1
    rw [hc2] at hlen
    obtain ⟨x, hx, _⟩ := e0.int Try.underlying3
    obtain ⟨y, hy, _⟩ := e1.int Try.underlying3
    have hcs : cs' = [Value.int .i64 x, Value.int .i64 y] := by
      match cs', hlen, hx, hy with
      | [u, v], _, hx, hy =>
        simp at hx hy
        rw [hx, hy]
    subst hcs
    exact ⟨(x, y), hc, trivial⟩)
  subst hts
  rcases Nat.lt_or_ge 100000 l.length with h | h
  · exact (reads_great l _ w h).mono fun e w' ⟨he, k⟩ => ⟨he, k.below0⟩
  · exact (reads_small l ts a cap w h (by unfold maxLen at g2; omega) hrd).mono fun e w' ⟨he, k⟩ => ⟨he, k.below0⟩

set_option maxRecDepth 100000 in
theorem PackReads_lifted (os : Os) (started : os.Started) (H : Type) (enc : TypeId × Value → H) :
    ReturnsInHanded {} Try.checked os 6 .any (Rows.packReadsSpec.pre6 enc Try.prog Try.f6 Rows.packReadsRow.domain false) (Rows.packReadsSpec.post enc Try.prog Try.f6 false true false false) := by
  refine returnsInHanded_of_change_sized (C := Try.checked) (by kernel_rfl) started (by kernel_rfl) Try.func6
    (ChangeSpec.witness6 (enc := enc) (C := Try.checked) false ⟨#[], #[Str [], .slice none 0 0], []⟩ 8 (by kernel_rfl) (by kernel_rfl) (by kernel_rfl) (by kernel_rfl)) ?_
  intro W base args ds gs before hval0 hW hcnd hsz0 _
  have hval : ∀ (j : Nat) t v, Try.f6.params[j]? = some t → args[j]? = some v → Value.okWide Try.prog W .any base t v := hval0
  have hsz : (DataW.weightsEach Try.prog (Try.f6.params.toList ++ Rows.packReadsSpec.plain.varTypes Try.prog) (ds ++ gs)).all (· ≤ reachBytes) = true := hsz0
  have hW' := hW
  obtain ⟨p, q, hA0, hV, rfl, hfz, hnd⟩ := hW
  have hA : DataW.TrodAll enc Try.prog W 0 (fun _ => true) true Try.f6.params.toList args.toList ds p := hA0
  rw [Try.params6] at hA hval hsz
  obtain ⟨v0, vs0, d0, ds0, p0, q0, hargs, rfl, rfl, h0, r0⟩ := trodAll_cons hA
  obtain ⟨v1, vs1, d1, ds1, p1, q1, rfl, rfl, rfl, h1, r1⟩ := trodAll_cons r0
  obtain ⟨rfl, rfl, rfl⟩ := trodAll_nil r1
  obtain rfl : args = #[v0, v1] := by cases args; simp_all
  obtain ⟨rfl, rfl⟩ := trodVars_none hV
  have lt0 : ∀ x ∈ p0, x.block < W.heap.size := by obtain ⟨m, hm⟩ := h0; exact DataW.trod_lt m _ _ _ hm
  have o0 := op_of hsz (j := 0) rfl rfl h0
  have lt1 : ∀ x ∈ p1, x.block < W.heap.size := by obtain ⟨m, hm⟩ := h1; exact DataW.trod_lt m _ _ _ hm
  have o1 := op_of hsz (j := 1) rfl rfl h1
  refine (PackReads_walk v0 v1 W (hval 0 _ v0 rfl rfl) o0 (hval 1 _ v1 rfl rfl) o1).mono fun e W' ⟨he, bel⟩ => ?_
  subst he
  exact ⟨_, rfl, _, _, _, [], _, [], hW', trodAll_mk1 (shut_bool Try.underlying4 _), (trodAll_cons_mk (Below.trod (by kernel_rfl) (by kernel_rfl) (of_decide_eq_true (by kernel_rfl)) h0 bel lt0) (trodAll_cons_mk (Below.trod (by kernel_rfl) (by kernel_rfl) (of_decide_eq_true (by kernel_rfl)) h1 bel lt1) trodAll_mk0)), rfl, bel.frame _, fun h => by cases h⟩

/-- The statement. -/
theorem PackReads_holds : Rows.PackReadsSaid :=
  OpenClaim.holds_of_wide 6 Try.f6 rfl rfl rfl rfl rfl rfl rfl ⟨rfl, rfl, rfl, rfl, rfl⟩ rfl rfl rfl rfl rfl (by kernel_rfl) Try.func6 (by kernel_rfl)
    (of_decide_eq_true (by kernel_rfl)) (by unfold Func.isWrapper; rw [if_neg (of_decide_eq_false (by kernel_rfl))]; exact ⟨rfl, rfl⟩)
    (fun os started H enc _ => PackReads_lifted os started H enc)
#print axioms PackReads_holds
end Go.Proofs.Ytjdmigoindhdnaa
