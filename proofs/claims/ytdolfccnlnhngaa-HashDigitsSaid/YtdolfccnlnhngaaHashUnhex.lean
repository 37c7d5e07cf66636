/-
  The reference's Hex; hash.Unhex: digits read back. Condition: at most 2^40 bytes.
-/
import Derived.Test.YtdolfccnlnhngaaHashHex
namespace Go.Proofs.Ytdolfccnlnhngaa
open Go.RowKit
set_option linter.unusedSimpArgs false
set_option linter.unusedVariables false

set_option maxRecDepth 10000 in
set_option maxHeartbeats 1000000 in
theorem refHex_any (s : List UInt8) (w : World) (hb : s.length ≤ 1099511627776) :
    Calls Try.prog 22 #[Str s] w fun e w' => e = .returned (Str (hexOf s)) ∧ Step [] [] w w' := by
  obtain ⟨i0, hi, hz0, hz1, hz2⟩ := info_parts Try.info_bytes
  have HI := Lib.hid (And.intro hi (And.intro hz0 (And.intro hz1 hz2)))
  clear hi hz0 hz1 hz2
  go_enter Try.func22, Try.ntmps22
  have R0 : Hid (Row (w.alloc (.cells #[] 5)) 1 (some ⟨w.heap.size, 0, none⟩) 0 0 ([].map bv) ∧ Step [] (blks (some ⟨w.heap.size, 0, none⟩)) w (w.alloc (.cells #[] 5))) := Lib.hid ⟨row_fresh w 5 [] (by simp), (Step.refl [] w).hold _⟩
  go_wp2_with fail
  go_loopw [3, 4] (fun e i wr => ∃ (k : Nat) (a : Option Addr) (cap n : Nat), k ≤ s.length ∧ i = .int .i64 k ∧ e = .slice a n cap ∧ n ≤ 2199023255552 ∧ Hid (n = 2 * k ∧ Row wr 1 a n cap ((hexOf (s.take k)).map bv) ∧ Step [] (blks a) w wr))
    (fun _ i _ => s.length - (intOf i).toNat)
  case atStart => exact ⟨0, _, 0, 0, by omega, rfl, rfl, by omega, by omega, R0.out.1, R0.out.2⟩
  case round =>
    clear R0
    obtain ⟨k, a, cap', n, hk, rfl, rfl, hn, HW⟩ := hrel
    by_cases hlt : k < s.length
    · have hlt' : (k : Int) < s.length := by omega
      obtain ⟨c, hc⟩ : ∃ c, s[k] = c := ⟨_, rfl⟩
      have hd1 : ∀ w, (Instr.index 9 (.string { data := #[48, 49, 50, 51, 52, 53, 54, 55, 56, 57, 97, 98, 99, 100, 101, 102] }) (.int .u8 ((c.toNat : Int) / 16))).run Try.prog w = .ok (.int .u8 ((digit (c.toNat / 16)).toNat : Int)) w := fun w => by
        have e : (c.toNat : Int) / 16 = ((c.toNat / 16 : Nat) : Int) := by omega
        have := c.toNat_lt
        rw [e]; exact run_digit _ (by omega) w
      have hd2 : ∀ w, (Instr.index 9 (.string { data := #[48, 49, 50, 51, 52, 53, 54, 55, 56, 57, 97, 98, 99, 100, 101, 102] }) (.int .u8 ((c.toNat : Int) % 16))).run Try.prog w = .ok (.int .u8 ((digit (c.toNat % 16)).toNat : Int)) w := fun w => by
        have e : (c.toNat : Int) % 16 = ((c.toNat % 16 : Nat) : Int) := by omega
        rw [e]; exact run_digit _ (by omega) w
      have hd5 : IntKind.u8.wrap ((c.toNat : Int) / 16) = (c.toNat : Int) / 16 := IntWalk.u8_in _ (by have := c.toNat_lt; omega)
      have hd6 : (c.toNat : Int).tmod 16 = (c.toNat : Int) % 16 := Int.tmod_eq_emod_of_nonneg (by omega)
      have hd4 : (k : Int) + 1 ≤ 1099511627776 := by omega
      go_wp2_with fail
      refine wp_region_held_drew (S := fun _ => True) (by kernel_rfl) (trivial) (fun hHeld => ?_)
      refine wpAnyH_take (i := 0) (v := ?_) rfl (by kernel_rfl) (by kernel_rfl) (by kernel_rfl) (fun _ _ _ h => h) (Or.inl ⟨by rfl, ?_⟩) hHeld ?_
      rotate_left
      · intro w hSw
        have hSw1 := hSw
        clear hSw
        try dsimp only at hSw1
        go_simp
        try (with_reducible rfl)
      try simp only [Act.put, List.setIfInBounds_toArray, List.set_cons_zero, List.set_cons_succ, List.getElem_toArray, List.getElem_cons_zero, List.getElem_cons_succ]
      refine wpAnyH_take (i := 1) (v := ?_) rfl (by kernel_rfl) (by kernel_rfl) (by kernel_rfl) (fun _ _ _ h => h) (Or.inl ⟨by rfl, ?_⟩) hHeld ?_
      rotate_left
      · intro w hSw
        have hSw1 := hSw
        clear hSw
        try dsimp only at hSw1
        go_simp
        try (with_reducible rfl)
      try simp only [Act.put, List.setIfInBounds_toArray, List.set_cons_zero, List.set_cons_succ, List.getElem_toArray, List.getElem_cons_zero, List.getElem_cons_succ]
      refine wpAnyH_take (i := 2) (v := ?_) rfl (by kernel_rfl) (by kernel_rfl) (by kernel_rfl) (fun _ _ _ h => h) (Or.inl ⟨by rfl, ?_⟩) hHeld ?_
      rotate_left
      · intro w hSw
        have hSw1 := hSw
        clear hSw
        try dsimp only at hSw1
        go_simp
        try (with_reducible rfl)
      try simp only [Act.put, List.setIfInBounds_toArray, List.set_cons_zero, List.set_cons_succ, List.getElem_toArray, List.getElem_cons_zero, List.getElem_cons_succ]
      refine wpAnyH_take (i := 3) (v := ?_) rfl (by kernel_rfl) (by kernel_rfl) (by kernel_rfl) (fun _ _ _ h => h) (Or.inl ⟨by rfl, ?_⟩) hHeld ?_
      rotate_left
      · intro w hSw
        have hSw1 := hSw
        clear hSw
        try dsimp only at hSw1
        go_simp
        try (with_reducible rfl)
      try simp only [Act.put, List.setIfInBounds_toArray, List.set_cons_zero, List.set_cons_succ, List.getElem_toArray, List.getElem_cons_zero, List.getElem_cons_succ]
      refine wpAnyH_take (i := 4) (v := ?_) rfl (by kernel_rfl) (by kernel_rfl) (by kernel_rfl) (fun _ _ _ h => h) (Or.inl ⟨by rfl, ?_⟩) hHeld ?_
      rotate_left
      · intro w hSw
        have hSw1 := hSw
        clear hSw
        try dsimp only at hSw1
        go_simp
        try (with_reducible rfl)
      try simp only [Act.put, List.setIfInBounds_toArray, List.set_cons_zero, List.set_cons_succ, List.getElem_toArray, List.getElem_cons_zero, List.getElem_cons_succ]
      refine wpAnyH_take (i := 5) (v := ?_) rfl (by kernel_rfl) (by kernel_rfl) (by kernel_rfl) (fun _ _ _ h => h) (Or.inl ⟨by rfl, ?_⟩) hHeld ?_
      rotate_left
      · intro w hSw
        have hSw1 := hSw
        clear hSw
        try dsimp only at hSw1
        go_simp
        try (with_reducible rfl)
      try simp only [Act.put, List.setIfInBounds_toArray, List.set_cons_zero, List.set_cons_succ, List.getElem_toArray, List.getElem_cons_zero, List.getElem_cons_succ]
      refine wpAnyH_take (i := 6) (v := ?_) rfl (by kernel_rfl) (by kernel_rfl) (by kernel_rfl) (fun _ _ _ h => h) (Or.inl ⟨by rfl, ?_⟩) hHeld ?_
      rotate_left
      · intro w hSw
        have hSw1 := hSw
        clear hSw
        try dsimp only at hSw1
        go_simp
        try (with_reducible rfl)
      try simp only [Act.put, List.setIfInBounds_toArray, List.set_cons_zero, List.set_cons_succ, List.getElem_toArray, List.getElem_cons_zero, List.getElem_cons_succ]
      refine wpAnyH_take (i := 7) (v := ?_) rfl (by kernel_rfl) (by kernel_rfl) (by kernel_rfl) (fun _ _ _ h => h) (Or.inl ⟨by rfl, ?_⟩) hHeld ?_
      rotate_left
      · intro w hSw
        have hSw1 := hSw
        clear hSw
        try dsimp only at hSw1
        go_simp
        try (with_reducible rfl)
      try simp only [Act.put, List.setIfInBounds_toArray, List.set_cons_zero, List.set_cons_succ, List.getElem_toArray, List.getElem_cons_zero, List.getElem_cons_succ]
      refine wpAnyH_take (i := 8) (v := ?_) rfl (by kernel_rfl) (by kernel_rfl) (by kernel_rfl) (fun _ _ _ h => h) (Or.inl ⟨by rfl, ?_⟩) hHeld ?_
      rotate_left
      · intro w hSw
        have hSw1 := hSw
        clear hSw
        try dsimp only at hSw1
        go_simp
        try (with_reducible rfl)
      try simp only [Act.put, List.setIfInBounds_toArray, List.set_cons_zero, List.set_cons_succ, List.getElem_toArray, List.getElem_cons_zero, List.getElem_cons_succ]
      refine wpAnyH_take (i := 9) (v := ?_) rfl (by kernel_rfl) (by kernel_rfl) (by kernel_rfl) (fun _ _ _ h => h) (Or.inl ⟨by rfl, ?_⟩) hHeld ?_
      rotate_left
      · intro w hSw
        have hSw1 := hSw
        clear hSw
        try dsimp only at hSw1
        go_simp
        try (with_reducible rfl)
      try simp only [Act.put, List.setIfInBounds_toArray, List.set_cons_zero, List.set_cons_succ, List.getElem_toArray, List.getElem_cons_zero, List.getElem_cons_succ]
      refine wpAnyH_take (i := 10) (v := ?_) rfl (by kernel_rfl) (by kernel_rfl) (by kernel_rfl) (fun _ _ _ h => h) (Or.inl ⟨by rfl, ?_⟩) hHeld ?_
      rotate_left
      · intro w hSw
        have hSw1 := hSw
        clear hSw
        try dsimp only at hSw1
        go_simp
        try (with_reducible rfl)
      try simp only [Act.put, List.setIfInBounds_toArray, List.set_cons_zero, List.set_cons_succ, List.getElem_toArray, List.getElem_cons_zero, List.getElem_cons_succ]
      refine wpAnyH_ready (rs := [11]) (by kernel_rfl) (by simp) ?_
      refine AllReadyH.cons rfl (fun K hK => ?_) AllReadyH.nil
      go_simp
      
      go_wp2_with fail
      refine hK.out _ _ (trivial) (fun hHeld2 => ?_)
      clear hK K hHeld
      try simp only [Act.put, List.setIfInBounds_toArray, List.set_cons_zero, List.set_cons_succ, List.getElem_toArray, List.getElem_cons_zero, List.getElem_cons_succ]
      refine wpAnyH_ready (rs := [12]) (by kernel_rfl) (by simp) ?_
      refine AllReadyH.cons rfl (fun K hK => ?_) AllReadyH.nil
      refine step_append_row rfl (.tmp 12) (.tmp 23) 35 35 rfl 5 i0 _ 1 1 Try.underlying35 HI.out.1 HI.out.2.1 HI.out.2.2.1 HI.out.2.2.2 rfl rfl (HW.out.2.1.drew.alloc _) rfl (Src.rd 35 5 Try.underlying35 (row_fresh wr.drew 5 ((hex2 c).map bv) (by simp [hex2]; unfold maxLen; omega)).rd one_of_map) (by unfold maxLen; simp [hex2]; omega) (by simp [hex2]; omega) (by omega) ?_; intro a3 cap3 w3 hr3 hst3
      refine hK.out _ _ (trivial) (fun hHeld3 => ?_)
      clear hK K hHeld2
      try simp only [Act.put, List.setIfInBounds_toArray, List.set_cons_zero, List.set_cons_succ, List.getElem_toArray, List.getElem_cons_zero, List.getElem_cons_succ]
      refine wpAnyH_take (i := 13) (v := ?_) rfl (by kernel_rfl) (by kernel_rfl) (by kernel_rfl) (fun _ _ _ h => h) (Or.inl ⟨by rfl, ?_⟩) hHeld3 ?_
      rotate_left
      · intro w hSw
        have hSw1 := hSw
        clear hSw
        try dsimp only at hSw1
        go_simp
        try (with_reducible rfl)
      try simp only [Act.put, List.setIfInBounds_toArray, List.set_cons_zero, List.set_cons_succ, List.getElem_toArray, List.getElem_cons_zero, List.getElem_cons_succ]
      refine wpAnyH_done (by kernel_rfl) ?_ _
      go_wp2_with fail
      go_roundw
      case rel =>
        refine ⟨k + 1, a3, cap3, n + 2, by omega, by go_num, rfl, by have := HW.out.1; omega, by have := HW.out.1; omega, ?_, (HW.out.2.2.drew.alloc _).trans hst3⟩
        have e : hexOf (s.take (k + 1)) = hexOf (s.take k) ++ hex2 c := by simp [hexOf, List.take_add_one, List.getElem?_eq_getElem hlt, hc]
        rw [e, List.map_append]
        exact hr3
      case measure => simp [intOf]; omega
    · obtain rfl : k = s.length := by omega
      go_wp2_with fail
      rw [run_str_of_row 35 9 5 Try.underlying35 Try.underlying5 Try.underlying9 HW.out.2.1]
      rw [Result.andThen_ok, Oper.upon_value]
      go_wp2_with fail
      refine bodyPost_ret (results_tmp rfl _ _ _) rfl ⟨?_, ?_⟩
      · rfl
      · exact (HW.out.2.2.drop (by simp))
/-- Pairs of digits as bytes. -/
def byteOf (a b : UInt8) : UInt8 := UInt8.ofNat (16 * halfOf a + halfOf b)
def unp : List UInt8 → List UInt8
  | a :: b :: r => byteOf a b :: unp r
  | _ => []
def rightHex (t : List UInt8) : Bool := decide (t.length % 2 = 0) && t.all isHex
def unhexOf (t : List UInt8) : List UInt8 := if rightHex t then unp t else []

theorem unp_app : ∀ (k : Nat) (x y : List UInt8), x.length = 2 * k → unp (x ++ y) = unp x ++ unp y
  | 0, x, y, h => by
    have : x = [] := List.eq_nil_of_length_eq_zero (by omega)
    subst this; rfl
  | k + 1, [], y, h => by simp at h
  | k + 1, [a], y, h => by simp at h; omega
  | k + 1, a :: b :: r, y, h => by
    simp only [List.cons_append, unp, unp_app k r y (by simp at h; omega)]
theorem half_lt (c : UInt8) : halfOf c < 16 := by unfold halfOf; split <;> (try split) <;> omega
theorem or_half (a b : UInt8) : bits BinOp.or IntKind.u8 ((halfOf a : Int) * 16 % 256) (halfOf b : Int) = ((byteOf a b).toNat : Int) := by
  have h : ∀ x y : Fin 16, bits BinOp.or IntKind.u8 (((x.val : Nat) : Int) * 16 % 256) ((y.val : Nat) : Int) = (((UInt8.ofNat (16 * x.val + y.val)).toNat : Nat) : Int) := by decide +kernel
  exact h ⟨halfOf a, half_lt a⟩ ⟨halfOf b, half_lt b⟩

set_option maxRecDepth 100000 in
set_option maxHeartbeats 1000000 in
theorem unhex_any (t : List UInt8) (w : World) (hb : t.length ≤ 1099511627776) :
    Calls Try.prog 21 #[Str t] w fun e w' => e = .returned (.tuple #[Str (unhexOf t), .bool (rightHex t)]) ∧ Step [] [] w w' := by
  by_cases hev : t.length % 2 = 0
  · have hev' : (t.length : Int) % 2 = 0 := by omega
    obtain ⟨i0, hi, hz0, hz1, hz2⟩ := info_parts Try.info_bytes
    have HI := Lib.hid (And.intro hi (And.intro hz0 (And.intro hz1 hz2)))
    clear hi hz0 hz1 hz2
    have HE := Lib.hid hev
    clear hev
    go_enter Try.func21, Try.ntmps21
    go_wp2_with fail
    go_loopw [4, 5] (fun e i wr => ∃ (k : Nat) (a : Option Addr) (cap n : Nat), k ≤ t.length ∧ i = .int .i64 k ∧ e = .slice a n cap ∧ n ≤ 1099511627776 ∧ Hid (k = 2 * n ∧ (t.take k).all isHex = true ∧ Row wr 1 a n cap ((unp (t.take k)).map bv) ∧ Step [] (blks a) w wr))
      (fun _ i _ => t.length - (intOf i).toNat)
    case atStart => exact ⟨0, none, 0, 0, by omega, rfl, rfl, by omega, by omega, by simp, Row.none _ _, Step.refl _ _⟩
    case round =>
      clear hev'
      obtain ⟨k, a, cap', n, hk, rfl, rfl, hn, HW⟩ := hrel
      by_cases hlt : k < t.length
      · have hlt' : (k : Int) < t.length := by omega
        have hk1 : k + 1 < t.length := by have := HW.out.1; have := HE.out; omega
        have hk1' : (k : Int) + 1 < t.length := by omega
        have hk2 : ((k : Int) + 1).toNat = k + 1 := by omega
        obtain ⟨x, hx⟩ : ∃ x, t[k] = x := ⟨_, rfl⟩
        obtain ⟨y, hy⟩ : ∃ y, t[k + 1] = y := ⟨_, rfl⟩
        have htk : t.take (k + 2) = t.take k ++ [x, y] := by
          rw [show k + 2 = k + 1 + 1 by omega, List.take_add_one, List.take_add_one, List.getElem?_eq_getElem hlt, List.getElem?_eq_getElem hk1, hx, hy]; simp
        have HT := Lib.hid htk
        clear htk
        go_wp2_with fail
        refine (half_any x _).mono ?_
        rintro e w1 ⟨rfl, rfl⟩
        go_wp2_with fail
        refine (half_any y _).mono ?_
        rintro e w1 ⟨rfl, rfl⟩
        cases hxx : isHex x with
        | false =>
          go_wp2_with fail
          have hr : rightHex t = false := by
            unfold rightHex
            have : ¬ t.all isHex = true := fun h => by
              have h1 := List.all_eq_true.1 h x (by rw [← hx]; exact List.getElem_mem hlt)
              rw [hxx] at h1; cases h1
            simp only [Bool.not_eq_true] at this
            simp [this]
          refine bodyPost_ret (results_tmp2 rfl _ _ _) rfl ⟨?_, HW.out.2.2.2.drop (by simp)⟩
          simp [unhexOf, hr]
        | true =>
          cases hyy : isHex y with
          | false =>
            go_wp2_with fail
            have hr : rightHex t = false := by
              unfold rightHex
              have : ¬ t.all isHex = true := fun h => by
                have h1 := List.all_eq_true.1 h y (by rw [← hy]; exact List.getElem_mem hk1)
                rw [hyy] at h1; cases h1
              simp only [Bool.not_eq_true] at this
              simp [this]
            refine bodyPost_ret (results_tmp2 rfl _ _ _) rfl ⟨?_, HW.out.2.2.2.drop (by simp)⟩
            simp [unhexOf, hr]
          | true =>
            have hor := or_half x y
            go_wp2_with (at_builtin; refine wpList_append_row rfl (.tmp 41) (.tmp 46) 35 35 rfl 5 i0 _ 1 1 Try.underlying35 HI.out.1 HI.out.2.1 HI.out.2.2.1 HI.out.2.2.2 rfl rfl (HW.out.2.2.1.alloc _) rfl (Src.rd 35 5 Try.underlying35 (row_fresh wr 5 [bv (byteOf x y)] (by simp; unfold maxLen; omega)).rd (one_of_map (l := [byteOf x y]))) (by unfold maxLen; omega) (by omega) (by omega) ?_; intro a3 cap3 w3 hr3 hst3)
            go_roundw
            case rel =>
              refine ⟨k + 2, a3, cap3, n + 1, by omega, by go_num, rfl, by have := HW.out.1; omega, by have := HW.out.1; omega, ?_, ?_, (HW.out.2.2.2.alloc _).trans hst3⟩
              · rw [HT.out, List.all_append, HW.out.2.1]; simp [hxx, hyy]
              · rw [HT.out, unp_app n _ _ (by rw [List.length_take]; have := HW.out.1; omega), List.map_append]
                exact hr3
            case measure => simp [intOf]; omega
      · obtain rfl : k = t.length := by omega
        go_wp2_with fail
        rw [run_str_of_row 35 9 5 Try.underlying35 Try.underlying5 Try.underlying9 HW.out.2.2.1]
        rw [Result.andThen_ok, Oper.upon_value]
        go_wp2_with fail
        have hr : rightHex t = true := by
          have := HW.out.2.1
          rw [List.take_length] at this
          simp [rightHex, this, HE.out]
        refine bodyPost_ret (results_tmp2 rfl _ _ _) rfl ⟨?_, HW.out.2.2.2.drop (by simp)⟩
        simp [unhexOf, hr]
  · have hev' : (t.length : Int) % 2 = 1 := by omega
    have hr : rightHex t = false := by simp [rightHex, hev]
    have h2 : unhexOf t = [] := by simp [unhexOf, hr]
    rw [hr, h2]
    clear hev hr h2
    go_enter Try.func21, Try.ntmps21
    go_wp2_with fail
    refine bodyPost_ret (results_tmp2 rfl _ _ _) rfl ⟨rfl, Step.refl _ _⟩
end Go.Proofs.Ytdolfccnlnhngaa
