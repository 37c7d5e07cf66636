/-
  hash.Hex, hash.Unhex: digits. Condition: at most 2^40 bytes.
-/
import Derived.Test.YtdolfccnlnhngaaHashAll
import Derived.Test.YtdolfccnlnhngaaMem4
namespace Go.Proofs.Ytdolfccnlnhngaa
open Go.RowKit
set_option linter.unusedSimpArgs false
set_option linter.unusedVariables false

def digit (n : Nat) : UInt8 := if n < 10 then UInt8.ofNat (48 + n) else UInt8.ofNat (87 + n)
def hex2 (b : UInt8) : List UInt8 := [digit (b.toNat / 16), digit (b.toNat % 16)]
def hexOf (s : List UInt8) : List UInt8 := s.flatMap hex2

theorem run_digit (n : Nat) (hn : n < 16) (w : World) : (Instr.index 9 (.string { data := #[48, 49, 50, 51, 52, 53, 54, 55, 56, 57, 97, 98, 99, 100, 101, 102] }) (.int .u8 (n : Int))).run Try.prog w = .ok (.int .u8 ((digit n).toNat : Int)) w := by
  have : n = 0 ∨ n = 1 ∨ n = 2 ∨ n = 3 ∨ n = 4 ∨ n = 5 ∨ n = 6 ∨ n = 7 ∨ n = 8 ∨ n = 9 ∨ n = 10 ∨ n = 11 ∨ n = 12 ∨ n = 13 ∨ n = 14 ∨ n = 15 := by omega
  rcases this with rfl | rfl | rfl | rfl | rfl | rfl | rfl | rfl | rfl | rfl | rfl | rfl | rfl | rfl | rfl | rfl <;> rfl
theorem and15 (c : UInt8) : bits BinOp.and IntKind.u8 (c.toNat : Int) 15 = (c.toNat : Int) % 16 := by
  have h : ∀ n : Fin 256, bits BinOp.and IntKind.u8 ((n.val : Nat) : Int) 15 = ((n.val : Nat) : Int) % 16 := by decide +kernel
  exact h ⟨c.toNat, c.toNat_lt⟩

set_option maxRecDepth 10000 in
set_option maxHeartbeats 1000000 in
theorem hex_any (s : List UInt8) (w : World) (hb : s.length ≤ 1099511627776) :
    Calls Try.prog 20 #[Str s] w fun e w' => e = .returned (Str (hexOf s)) ∧ Step [] [] w w' := by
  obtain ⟨i0, hi, hz0, hz1, hz2⟩ := info_parts Try.info_bytes
  have HI := Lib.hid (And.intro hi (And.intro hz0 (And.intro hz1 hz2)))
  clear hi hz0 hz1 hz2
  go_enter Try.func20, Try.ntmps20
  go_wp2_with fail
  obtain ⟨g, cap, w1, hcv, hrow, hst, hg⟩ := run_row_of_str (P := Try.prog) (w := w) 9 35 5 s Try.underlying9 Try.underlying35 Try.underlying5 (by unfold maxLen; omega)
  rw [hcv, Result.andThen_ok, Oper.upon_value]
  have H1 := Lib.hid (And.intro hrow hst)
  clear hrow hst hcv hg
  go_wp2_with fail
  go_loopw [3, 9] (fun e i wr => ∃ (k : Nat) (a : Option Addr) (cap n : Nat), k ≤ s.length ∧ i = .int .i64 k ∧ e = .slice a n cap ∧ n ≤ 2199023255552 ∧ Hid (n = 2 * k ∧ Row wr 1 a n cap ((hexOf (s.take k)).map bv) ∧ Step [] (blks a) w1 wr))
    (fun _ i _ => s.length - (intOf i).toNat)
  case atStart => exact ⟨0, none, 0, 0, by omega, rfl, rfl, by omega, by omega, Row.none _ _, Step.refl _ _⟩
  case round =>
    obtain ⟨k, a, cap', n, hk, rfl, rfl, hn, HW⟩ := hrel
    by_cases hlt : k < s.length
    · have hlt' : (k : Int) < s.length := by omega
      obtain ⟨c, hc⟩ : ∃ c, s[k]? = some c := ⟨_, List.getElem?_eq_getElem hlt⟩
      have cx : wr.cell? ⟨g, k, none⟩ = some (.int .u8 (c.toNat : Int)) := by
        have := (H1.out.1.rd.step0 HW.out.2.2).cell g 0 none rfl k (bv c) (by simp [hc])
        rw [Nat.zero_add] at this
        exact this
      go_wp2_with fail
      have hd1 : ∀ w, (Instr.index 9 (.string { data := #[48, 49, 50, 51, 52, 53, 54, 55, 56, 57, 97, 98, 99, 100, 101, 102] }) (.int .u8 ((c.toNat : Int) / 16))).run Try.prog w = .ok (.int .u8 ((digit (c.toNat / 16)).toNat : Int)) w := fun w => by
        have e : (c.toNat : Int) / 16 = ((c.toNat / 16 : Nat) : Int) := by omega
        have := c.toNat_lt
        rw [e]; exact run_digit _ (by omega) w
      have hd2 : ∀ w, (Instr.index 9 (.string { data := #[48, 49, 50, 51, 52, 53, 54, 55, 56, 57, 97, 98, 99, 100, 101, 102] }) (.int .u8 ((c.toNat : Int) % 16))).run Try.prog w = .ok (.int .u8 ((digit (c.toNat % 16)).toNat : Int)) w := fun w => by
        have e : (c.toNat : Int) % 16 = ((c.toNat % 16 : Nat) : Int) := by omega
        rw [e]; exact run_digit _ (by omega) w
      have hd3 := and15 c
      refine wp_region_held_drew (S := fun _ => True) (by kernel_rfl) (trivial) (fun hHeld => ?_)
      refine wpAnyH_take (i := 0) (v := ?_) rfl (by kernel_rfl) (by kernel_rfl) (by kernel_rfl) (fun _ _ _ h => h) (Or.inl ⟨by rfl, ?_⟩) hHeld ?_
      rotate_left
      · intro w hSw
        have hSw1 := hSw
        clear hSw
        try dsimp only at hSw1
        go_simp
        try (with_reducible rfl)
      try simp only [Act.put, List.setIfInBounds_toArray, List.set_cons_zero, List.set_cons_succ, List.getElem_toArray, List.getElem_cons_zero, List.getElem_cons_succ]
      refine wpAnyH_take (i := 1) (v := ?_) rfl (by kernel_rfl) (by kernel_rfl) (by kernel_rfl) (fun _ _ _ h => h) (Or.inl ⟨by rfl, ?_⟩) hHeld ?_
      rotate_left
      · intro w hSw
        have hSw1 := hSw
        clear hSw
        try dsimp only at hSw1
        go_simp
        try (with_reducible rfl)
      try simp only [Act.put, List.setIfInBounds_toArray, List.set_cons_zero, List.set_cons_succ, List.getElem_toArray, List.getElem_cons_zero, List.getElem_cons_succ]
      refine wpAnyH_take (i := 2) (v := ?_) rfl (by kernel_rfl) (by kernel_rfl) (by kernel_rfl) (fun _ _ _ h => h) (Or.inl ⟨by rfl, ?_⟩) hHeld ?_
      rotate_left
      · intro w hSw
        have hSw1 := hSw
        clear hSw
        try dsimp only at hSw1
        go_simp
        try (with_reducible rfl)
      try simp only [Act.put, List.setIfInBounds_toArray, List.set_cons_zero, List.set_cons_succ, List.getElem_toArray, List.getElem_cons_zero, List.getElem_cons_succ]
      refine wpAnyH_take (i := 4) (v := ?_) rfl (by kernel_rfl) (by kernel_rfl) (by kernel_rfl) (fun _ _ _ h => h) (Or.inl ⟨by rfl, ?_⟩) hHeld ?_
      rotate_left
      · intro w hSw
        have hSw1 := hSw
        clear hSw
        try dsimp only at hSw1
        go_simp
        try (with_reducible rfl)
      try simp only [Act.put, List.setIfInBounds_toArray, List.set_cons_zero, List.set_cons_succ, List.getElem_toArray, List.getElem_cons_zero, List.getElem_cons_succ]
      refine wpAnyH_take (i := 5) (v := ?_) rfl (by kernel_rfl) (by kernel_rfl) (by kernel_rfl) (fun _ _ _ h => h) (Or.inl ⟨by rfl, ?_⟩) hHeld ?_
      rotate_left
      · intro w hSw
        have hSw1 := hSw
        clear hSw
        try dsimp only at hSw1
        go_simp
        try (with_reducible rfl)
      try simp only [Act.put, List.setIfInBounds_toArray, List.set_cons_zero, List.set_cons_succ, List.getElem_toArray, List.getElem_cons_zero, List.getElem_cons_succ]
      refine wpAnyH_take (i := 3) (v := ?_) rfl (by kernel_rfl) (by kernel_rfl) (by kernel_rfl) (fun _ _ _ h => h) (Or.inl ⟨by rfl, ?_⟩) hHeld ?_
      rotate_left
      · intro w hSw
        have hSw1 := hSw
        clear hSw
        try dsimp only at hSw1
        go_simp
        try (with_reducible rfl)
      try simp only [Act.put, List.setIfInBounds_toArray, List.set_cons_zero, List.set_cons_succ, List.getElem_toArray, List.getElem_cons_zero, List.getElem_cons_succ]
      refine wpAnyH_take (i := 6) (v := ?_) rfl (by kernel_rfl) (by kernel_rfl) (by kernel_rfl) (fun _ _ _ h => h) (Or.inl ⟨by rfl, ?_⟩) hHeld ?_
      rotate_left
      · intro w hSw
        have hSw1 := hSw
        clear hSw
        try dsimp only at hSw1
        go_simp
        try (with_reducible rfl)
      try simp only [Act.put, List.setIfInBounds_toArray, List.set_cons_zero, List.set_cons_succ, List.getElem_toArray, List.getElem_cons_zero, List.getElem_cons_succ]
      refine wpAnyH_ready (rs := [7]) (by kernel_rfl) (by simp) ?_
      refine AllReadyH.cons rfl (fun K hK => ?_) AllReadyH.nil
      go_simp
      
      go_wp2_with fail
      refine hK.out _ _ (trivial) (fun hHeld2 => ?_)
      clear hK K hHeld
      try simp only [Act.put, List.setIfInBounds_toArray, List.set_cons_zero, List.set_cons_succ, List.getElem_toArray, List.getElem_cons_zero, List.getElem_cons_succ]
      refine wpAnyH_ready (rs := [8]) (by kernel_rfl) (by simp) ?_
      refine AllReadyH.cons rfl (fun K hK => ?_) AllReadyH.nil
      refine step_append_row rfl (.tmp 13) (.tmp 20) 35 35 rfl 5 i0 _ 1 1 Try.underlying35 HI.out.1 HI.out.2.1 HI.out.2.2.1 HI.out.2.2.2 rfl rfl (HW.out.2.1.drew.alloc _) rfl (Src.rd 35 5 Try.underlying35 (row_fresh wr.drew 5 ((hex2 c).map bv) (by simp [hex2]; unfold maxLen; omega)).rd one_of_map) (by unfold maxLen; simp [hex2]; omega) (by simp [hex2]; omega) (by omega) ?_; intro a3 cap3 w3 hr3 hst3
      refine hK.out _ _ (trivial) (fun hHeld3 => ?_)
      clear hK K hHeld2
      try simp only [Act.put, List.setIfInBounds_toArray, List.set_cons_zero, List.set_cons_succ, List.getElem_toArray, List.getElem_cons_zero, List.getElem_cons_succ]
      refine wpAnyH_take (i := 9) (v := ?_) rfl (by kernel_rfl) (by kernel_rfl) (by kernel_rfl) (fun _ _ _ h => h) (Or.inl ⟨by rfl, ?_⟩) hHeld3 ?_
      rotate_left
      · intro w hSw
        have hSw1 := hSw
        clear hSw
        try dsimp only at hSw1
        go_simp
        try (with_reducible rfl)
      try simp only [Act.put, List.setIfInBounds_toArray, List.set_cons_zero, List.set_cons_succ, List.getElem_toArray, List.getElem_cons_zero, List.getElem_cons_succ]
      refine wpAnyH_done (by kernel_rfl) ?_ _
      go_wp2_with fail
      go_roundw
      case rel =>
        refine ⟨k + 1, a3, cap3, n + 2, by omega, by go_num, rfl, by have := HW.out.1; omega, by have := HW.out.1; omega, ?_, (HW.out.2.2.drew.alloc _).trans hst3⟩
        have e : hexOf (s.take (k + 1)) = hexOf (s.take k) ++ hex2 c := by simp [hexOf, List.take_add_one, hc]
        rw [e, List.map_append]
        exact hr3
      case measure => simp [intOf]; omega
    · obtain rfl : k = s.length := by omega
      go_wp2_with fail
      rw [run_str_of_row 35 9 5 Try.underlying35 Try.underlying5 Try.underlying9 HW.out.2.1]
      rw [Result.andThen_ok, Oper.upon_value]
      go_wp2_with fail
      refine bodyPost_ret (results_tmp rfl _ _ _) rfl ⟨?_, ?_⟩
      · rfl
      · exact (H1.out.2.drop (by simp)).trans (HW.out.2.2.drop (by simp))

def halfOf (c : UInt8) : Nat := if 48 ≤ c.toNat ∧ c.toNat ≤ 57 then c.toNat - 48 else if 97 ≤ c.toNat ∧ c.toNat ≤ 102 then c.toNat - 87 else 0
def isHex (c : UInt8) : Bool := decide ((48 ≤ c.toNat ∧ c.toNat ≤ 57) ∨ (97 ≤ c.toNat ∧ c.toNat ≤ 102))
theorem half_any (c : UInt8) (w : World) : Calls Try.prog 30 #[.int .u8 (c.toNat : Int)] w fun e w' => e = .returned (.tuple #[.int .u8 (halfOf c : Int), .bool (isHex c)]) ∧ w = w' := by
  by_cases h1 : c.toNat < 48
  · have a1 : ¬ (48 : Int) ≤ (c.toNat : Int) := by omega
    have a2 : ¬ (97 : Int) ≤ (c.toNat : Int) := by omega
    have e1 : halfOf c = 0 := by unfold halfOf; rw [if_neg (by omega), if_neg (by omega)]
    have e2 : isHex c = false := by unfold isHex; simp; omega
    rw [e1, e2]
    clear e1 e2
    go_enter Try.func30, Try.ntmps30
    go_wp2_with fail
    exact bodyPost_ret (results_tmp2 rfl _ _ _) rfl ⟨rfl, rfl⟩
  · by_cases h2 : c.toNat ≤ 57
    · have a1 : (48 : Int) ≤ (c.toNat : Int) := by omega
      have a2 : (c.toNat : Int) ≤ 57 := by omega
      have e1 : ((halfOf c : Nat) : Int) = (c.toNat : Int) - 48 := by unfold halfOf; rw [if_pos (by omega)]; omega
      have e2 : isHex c = true := by unfold isHex; simp; omega
      rw [e1, e2]
      clear e1 e2
      go_enter Try.func30, Try.ntmps30
      go_wp2_with fail
      exact bodyPost_ret (results_tmp2 rfl _ _ _) rfl ⟨rfl, rfl⟩
    · by_cases h3 : c.toNat < 97
      · have a1 : (48 : Int) ≤ (c.toNat : Int) := by omega
        have a2 : ¬ (c.toNat : Int) ≤ 57 := by omega
        have a3 : ¬ (97 : Int) ≤ (c.toNat : Int) := by omega
        have e1 : halfOf c = 0 := by unfold halfOf; rw [if_neg (by omega), if_neg (by omega)]
        have e2 : isHex c = false := by unfold isHex; simp; omega
        rw [e1, e2]
        clear e1 e2
        go_enter Try.func30, Try.ntmps30
        go_wp2_with fail
        exact bodyPost_ret (results_tmp2 rfl _ _ _) rfl ⟨rfl, rfl⟩
      · by_cases h4 : c.toNat ≤ 102
        · have a1 : (48 : Int) ≤ (c.toNat : Int) := by omega
          have a2 : ¬ (c.toNat : Int) ≤ 57 := by omega
          have a3 : (97 : Int) ≤ (c.toNat : Int) := by omega
          have a4 : (c.toNat : Int) ≤ 102 := by omega
          have e1 : ((halfOf c : Nat) : Int) = (c.toNat : Int) - 97 + 10 := by unfold halfOf; rw [if_neg (by omega), if_pos (by omega)]; omega
          have e2 : isHex c = true := by unfold isHex; simp; omega
          rw [e1, e2]
          clear e1 e2
          go_enter Try.func30, Try.ntmps30
          go_wp2_with fail
          exact bodyPost_ret (results_tmp2 rfl _ _ _) rfl ⟨rfl, rfl⟩
        · have a1 : (48 : Int) ≤ (c.toNat : Int) := by omega
          have a2 : ¬ (c.toNat : Int) ≤ 57 := by omega
          have a3 : (97 : Int) ≤ (c.toNat : Int) := by omega
          have a4 : ¬ (c.toNat : Int) ≤ 102 := by omega
          have e1 : halfOf c = 0 := by unfold halfOf; rw [if_neg (by omega), if_neg (by omega)]
          have e2 : isHex c = false := by unfold isHex; simp; omega
          rw [e1, e2]
          clear e1 e2
          go_enter Try.func30, Try.ntmps30
          go_wp2_with fail
          exact bodyPost_ret (results_tmp2 rfl _ _ _) rfl ⟨rfl, rfl⟩
end Go.Proofs.Ytdolfccnlnhngaa
