/-
  The reference's Joined. Condition: at most 2^40 bytes in all.
-/
import Derived.Test.YtdiacfbflbenoaaHashJoin
import Derived.Test.YtdiacfbflbenoaaHashRefSum
import Derived.Test.YtdiacfbflbenoaaMem4
namespace Go.Proofs.Ytdiacfbflbenoaa
open Go.RowKit
set_option linter.unusedSimpArgs false
set_option linter.unusedVariables false

set_option maxRecDepth 100000 in
set_option maxHeartbeats 1000000 in
theorem refJoined_any (l : List (List UInt8)) (a : Option Addr) (cap : Nat) (w : World) (hr : Rd w 1 a l.length (l.map Str)) (hl : l.length ≤ 1099511627776) (hb : (joined l).length ≤ 1099511627776) :
    Calls Try.prog 52 #[.slice a l.length cap] w fun e w' => e = .returned (Str (joined l)) ∧ Step [] [] w w' := by
  obtain ⟨i0, hi, hz0, hz1, hz2⟩ := info_parts Try.info_bytes
  have HI := Lib.hid (And.intro hi (And.intro hz0 (And.intro hz1 hz2)))
  clear hi hz0 hz1 hz2
  have R0 : Hid (Row (w.alloc (.cells #[] 5)) 1 (some ⟨w.heap.size, 0, none⟩) 0 0 ((joined (l.take 0)).map bv) ∧ Step [] (blks (some ⟨w.heap.size, 0, none⟩)) w (w.alloc (.cells #[] 5))) := Lib.hid ⟨row_fresh w 5 [] (by simp), (Step.refl [] w).hold _⟩
  go_enter Try.func52, Try.ntmps52
  go_wp2_with fail
  go_loopw [3, 4] (fun v i wr => ∃ (k : Nat) (b : Option Addr) (c n : Nat), k ≤ l.length ∧ n ≤ 1099511627776 ∧ i = .int .i64 k ∧ v = .slice b n c ∧ Hid (n = (joined (l.take k)).length ∧ Row wr 1 b n c ((joined (l.take k)).map bv) ∧ Step [] (blks b) w wr))
    (fun _ i _ => l.length - (intOf i).toNat)
  case atStart => exact ⟨0, _, 0, 0, by omega, by omega, rfl, rfl, rfl, R0.out⟩
  case round =>
    clear R0
    obtain ⟨k, b, c, n, hk, hn, rfl, rfl, HW⟩ := hrel
    by_cases hlt : k < l.length
    · have hlt' : (k : Int) < l.length := by omega
      obtain ⟨x, hx⟩ : ∃ x, l[k]? = some x := ⟨_, List.getElem?_eq_getElem hlt⟩
      obtain ⟨g, off, rfl⟩ := hr.some_ (by omega)
      have hbx : n + (8 + x.length) ≤ 1099511627776 := by
        have h1 := joined_take_len l (k + 1)
        rw [joined_take l k x hx, List.length_append] at h1
        simp [len8] at h1
        have := HW.out.1
        omega
      have c0 := hr.cell g off none rfl k (Str x) (by simp [hx])
      have cx : wr.drew.cell? ⟨g, off + k, none⟩ = some (Str x) := HW.out.2.2.cell c0 (by simp)
      have hng : g ∉ blks b := HW.out.2.2.notin (World.block_lt_of_cell? _ _ c0) (by simp)
      clear c0
      have hz : IntKind.u64.wrap (x.length : Int) = (x.length : Int) := IntWalk.u64_in _ (by omega)
      go_wp2_with fail
      refine wp_region_held_drew (S := fun w => w.cell? ⟨g, off + k, none⟩ = some (Str x)) (by kernel_rfl) (cx) (fun hHeld => ?_)
      refine wpAnyH_take (i := 0) (v := ?_) rfl (by kernel_rfl) (by kernel_rfl) (by kernel_rfl) (fun _ _ _ h => h) (Or.inl ⟨by rfl, ?_⟩) hHeld ?_
      rotate_left
      · intro w hSw
        have hSw1 := hSw
        clear hSw
        try dsimp only at hSw1
        go_simp
        try (with_reducible rfl)
      try simp only [Act.put, List.setIfInBounds_toArray, List.set_cons_zero, List.set_cons_succ, List.getElem_toArray, List.getElem_cons_zero, List.getElem_cons_succ]
      refine wpAnyH_take (i := 1) (v := ?_) rfl (by kernel_rfl) (by kernel_rfl) (by kernel_rfl) (fun _ _ _ h => h) (Or.inl ⟨by rfl, ?_⟩) hHeld ?_
      rotate_left
      · intro w hSw
        have hSw1 := hSw
        clear hSw
        try dsimp only at hSw1
        go_simp
        try (with_reducible rfl)
      try simp only [Act.put, List.setIfInBounds_toArray, List.set_cons_zero, List.set_cons_succ, List.getElem_toArray, List.getElem_cons_zero, List.getElem_cons_succ]
      refine wpAnyH_take (i := 2) (v := ?_) rfl (by kernel_rfl) (by kernel_rfl) (by kernel_rfl) (fun _ _ _ h => h) (Or.inl ⟨by rfl, ?_⟩) hHeld ?_
      rotate_left
      · intro w hSw
        have hSw1 := hSw
        clear hSw
        try dsimp only at hSw1
        go_simp
        try (with_reducible rfl)
      try simp only [Act.put, List.setIfInBounds_toArray, List.set_cons_zero, List.set_cons_succ, List.getElem_toArray, List.getElem_cons_zero, List.getElem_cons_succ]
      refine wpAnyH_take (i := 3) (v := ?_) rfl (by kernel_rfl) (by kernel_rfl) (by kernel_rfl) (fun _ _ _ h => h) (Or.inl ⟨by rfl, ?_⟩) hHeld ?_
      rotate_left
      · intro w hSw
        have hSw1 := hSw
        clear hSw
        try dsimp only at hSw1
        go_simp
        try (with_reducible rfl)
      try simp only [Act.put, List.setIfInBounds_toArray, List.set_cons_zero, List.set_cons_succ, List.getElem_toArray, List.getElem_cons_zero, List.getElem_cons_succ]
      refine wpAnyH_take (i := 4) (v := ?_) rfl (by kernel_rfl) (by kernel_rfl) (by kernel_rfl) (fun _ _ _ h => h) (Or.inl ⟨by rfl, ?_⟩) hHeld ?_
      rotate_left
      · intro w hSw
        have hSw1 := hSw
        clear hSw
        try dsimp only at hSw1
        go_simp
        try (with_reducible rfl)
      try simp only [Act.put, List.setIfInBounds_toArray, List.set_cons_zero, List.set_cons_succ, List.getElem_toArray, List.getElem_cons_zero, List.getElem_cons_succ]
      refine wpAnyH_take (i := 5) (v := ?_) rfl (by kernel_rfl) (by kernel_rfl) (by kernel_rfl) (fun _ _ _ h => h) (Or.inl ⟨by rfl, ?_⟩) hHeld ?_
      rotate_left
      · intro w hSw
        have hSw1 := hSw
        clear hSw
        try dsimp only at hSw1
        go_simp
        try (with_reducible rfl)
      try simp only [Act.put, List.setIfInBounds_toArray, List.set_cons_zero, List.set_cons_succ, List.getElem_toArray, List.getElem_cons_zero, List.getElem_cons_succ]
      refine wpAnyH_take (i := 6) (v := ?_) rfl (by kernel_rfl) (by kernel_rfl) (by kernel_rfl) (fun _ _ _ h => h) (Or.inl ⟨by rfl, ?_⟩) hHeld ?_
      rotate_left
      · intro w hSw
        have hSw1 := hSw
        clear hSw
        try dsimp only at hSw1
        go_simp
        try (with_reducible rfl)
      try simp only [Act.put, List.setIfInBounds_toArray, List.set_cons_zero, List.set_cons_succ, List.getElem_toArray, List.getElem_cons_zero, List.getElem_cons_succ]
      refine wpAnyH_take (i := 9) (v := ?_) rfl (by kernel_rfl) (by kernel_rfl) (by kernel_rfl) (fun _ _ _ h => h) (Or.inl ⟨by rfl, ?_⟩) hHeld ?_
      rotate_left
      · intro w hSw
        have hSw1 := hSw
        clear hSw
        try dsimp only at hSw1
        go_simp
        try (with_reducible rfl)
      try simp only [Act.put, List.setIfInBounds_toArray, List.set_cons_zero, List.set_cons_succ, List.getElem_toArray, List.getElem_cons_zero, List.getElem_cons_succ]
      refine wpAnyH_take (i := 10) (v := ?_) rfl (by kernel_rfl) (by kernel_rfl) (by kernel_rfl) (fun _ _ _ h => h) (Or.inl ⟨by rfl, ?_⟩) hHeld ?_
      rotate_left
      · intro w hSw
        have hSw1 := hSw
        clear hSw
        try dsimp only at hSw1
        go_simp
        try (with_reducible rfl)
      try simp only [Act.put, List.setIfInBounds_toArray, List.set_cons_zero, List.set_cons_succ, List.getElem_toArray, List.getElem_cons_zero, List.getElem_cons_succ]
      refine wpAnyH_take (i := 11) (v := ?_) rfl (by kernel_rfl) (by kernel_rfl) (by kernel_rfl) (fun _ _ _ h => h) (Or.inl ⟨by rfl, ?_⟩) hHeld ?_
      rotate_left
      · intro w hSw
        have hSw1 := hSw
        clear hSw
        try dsimp only at hSw1
        go_simp
        try (with_reducible rfl)
      try simp only [Act.put, List.setIfInBounds_toArray, List.set_cons_zero, List.set_cons_succ, List.getElem_toArray, List.getElem_cons_zero, List.getElem_cons_succ]
      refine wpAnyH_take (i := 12) (v := ?_) rfl (by kernel_rfl) (by kernel_rfl) (by kernel_rfl) (fun _ _ _ h => h) (Or.inl ⟨by rfl, ?_⟩) hHeld ?_
      rotate_left
      · intro w hSw
        have hSw1 := hSw
        clear hSw
        try dsimp only at hSw1
        go_simp
        try (with_reducible rfl)
      try simp only [Act.put, List.setIfInBounds_toArray, List.set_cons_zero, List.set_cons_succ, List.getElem_toArray, List.getElem_cons_zero, List.getElem_cons_succ]
      refine wpAnyH_ready (rs := [7]) (by kernel_rfl) (by simp) ?_
      refine AllReadyH.cons rfl (fun K hK => ?_) AllReadyH.nil
      go_simp
      refine (number_at x.length 8 _ _ rfl rfl (by omega) (by omega) (by omega) wr.drew).mono ?_; rintro e w8 ⟨g8, rfl, r8, k8⟩; have K8 := Lib.hid (And.intro r8 k8); clear r8 k8
      go_wp2_with fail
      refine hK.out _ _ (K8.out.2.cell hHeld (by simp)) (fun hHeld2 => ?_)
      clear hK K hHeld
      try simp only [Act.put, List.setIfInBounds_toArray, List.set_cons_zero, List.set_cons_succ, List.getElem_toArray, List.getElem_cons_zero, List.getElem_cons_succ]
      refine wpAnyH_ready (rs := [8]) (by kernel_rfl) (by simp) ?_
      refine AllReadyH.cons rfl (fun K hK => ?_) AllReadyH.nil
      refine step_append_row rfl (.tmp 12) (.tmp 19) 26 26 rfl 5 i0 _ 1 1 Try.underlying26 HI.out.1 HI.out.2.1 HI.out.2.2.1 HI.out.2.2.2 rfl rfl (HW.out.2.1.drew.step K8.out.2 (by simp)) rfl (Src.rd 26 5 Try.underlying26 K8.out.1 one_of_map) (by unfold maxLen; omega) (by omega) (by omega) ?_; intro a9 cap9 w9 hr9 hst9
      refine hK.out _ _ (hst9.cell hHeld2 hng) (fun hHeld3 => ?_)
      clear hK K hHeld2
      try simp only [Act.put, List.setIfInBounds_toArray, List.set_cons_zero, List.set_cons_succ, List.getElem_toArray, List.getElem_cons_zero, List.getElem_cons_succ]
      refine wpAnyH_ready (rs := [13]) (by kernel_rfl) (by simp) ?_
      refine AllReadyH.cons rfl (fun K hK => ?_) AllReadyH.nil
      refine step_append_row rfl (.tmp 20) (.tmp 24) 26 9 rfl 5 i0 _ 1 1 Try.underlying26 HI.out.1 HI.out.2.1 HI.out.2.2.1 HI.out.2.2.2 rfl rfl hr9 rfl (Src.str w9 9 Try.underlying9 x) (by unfold maxLen; omega) (by omega) (by omega) ?_; intro a10 cap10 w10 hr10 hst10
      refine hK.out _ _ (hst10.cell hHeld3 (hst9.notin (World.block_lt_of_cell? _ _ (K8.out.2.cell cx (by simp))) hng)) (fun hHeld4 => ?_)
      clear hK K hHeld3
      try simp only [Act.put, List.setIfInBounds_toArray, List.set_cons_zero, List.set_cons_succ, List.getElem_toArray, List.getElem_cons_zero, List.getElem_cons_succ]
      refine wpAnyH_take (i := 14) (v := ?_) rfl (by kernel_rfl) (by kernel_rfl) (by kernel_rfl) (fun _ _ _ h => h) (Or.inl ⟨by rfl, ?_⟩) hHeld4 ?_
      rotate_left
      · intro w hSw
        have hSw1 := hSw
        clear hSw
        try dsimp only at hSw1
        go_simp
        try (with_reducible rfl)
      try simp only [Act.put, List.setIfInBounds_toArray, List.set_cons_zero, List.set_cons_succ, List.getElem_toArray, List.getElem_cons_zero, List.getElem_cons_succ]
      refine wpAnyH_done (by kernel_rfl) ?_ _
      go_wp2_with fail
      go_roundw
      case rel =>
        refine ⟨k + 1, a10, cap10, n + 8 + x.length, by omega, by omega, by go_num, rfl, ?_, ?_, ((HW.out.2.2.drew.trans (K8.out.2.keep _)).trans hst9).trans hst10⟩
        · rw [joined_take l k x hx, List.length_append, ← HW.out.1]; simp [len8]; omega
        · rw [joined_take l k x hx, ← List.append_assoc, List.map_append, List.map_append, ← numBytes_8]
          exact hr10
      case measure => simp [intOf]; omega
    · obtain rfl : k = l.length := by omega
      go_wp2_with fail
      rw [run_str_of_row 26 9 5 Try.underlying26 Try.underlying5 Try.underlying9 HW.out.2.1]
      rw [Result.andThen_ok, Oper.upon_value]
      go_wp2_with fail
      refine bodyPost_ret (results_tmp rfl _ _ _) rfl ⟨?_, HW.out.2.2.drop (by simp)⟩
      rfl
end Go.Proofs.Ytdiacfbflbenoaa
