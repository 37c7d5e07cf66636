/-
  name.digit, name.Back. Conditions: texts of at most 2^40 bytes; utf8's tables as Go lays them.
-/
import Derived.Test.YtbdknljpbgocmaaDoorNameOwnPlain
namespace Go.Proofs.YtbdknljpbgocmaaDoor
open Go.RowKit Go.Lib
set_option linter.unusedSimpArgs false
set_option linter.unusedVariables false

def digV (c : UInt8) : Nat := if 48 ≤ c.toNat ∧ c.toNat ≤ 57 then c.toNat - 48 else if 97 ≤ c.toNat ∧ c.toNat ≤ 102 then c.toNat - 87 else 16
def two (x y : UInt8) : UInt8 := UInt8.ofNat (digV x * 16 + digV y)
def backF : Nat → List UInt8 → Option (List UInt8)
  | 0, _ => some []
  | _, [] => some []
  | n + 1, a :: r => if a.toNat = 92 then (match r with
      | x :: y :: r' => if digV x ≤ 15 ∧ digV y ≤ 15 then (backF n r').map (two x y :: ·) else none
      | _ => none)
    else (backF n r).map (a :: ·)
theorem backF_enough (n : Nat) : ∀ (r : List UInt8) (m : Nat), r.length ≤ n → r.length ≤ m → backF n r = backF m r := by
  induction n with
  | zero =>
    intro r m h _
    have : r = [] := List.eq_nil_of_length_eq_zero (by omega)
    subst this
    cases m <;> rfl
  | succ n ih =>
    intro r m h hm
    match r, m, h, hm with
    | [], m, _, _ => cases m <;> rfl
    | a :: r, 0, _, hm => simp at hm
    | a :: r, m + 1, h, hm =>
      simp at h hm
      simp only [backF]
      split
      · match r, h, hm with
        | [], _, _ => rfl
        | [_], _, _ => rfl
        | x :: y :: r', h, hm => simp at h hm; simp only [ih r' m (by omega) (by omega)]
      · rw [ih r m h hm]
def backL (r : List UInt8) : Option (List UInt8) := backF r.length r
theorem backL_nil : backL [] = some [] := rfl
theorem backL_self (a : UInt8) (r : List UInt8) (h : a.toNat ≠ 92) : backL (a :: r) = (backL r).map (a :: ·) := by
  simp [backL, backF, h]
theorem backL_esc (a x y : UInt8) (r : List UInt8) (h : a.toNat = 92) : backL (a :: x :: y :: r) = if digV x ≤ 15 ∧ digV y ≤ 15 then (backL r).map (two x y :: ·) else none := by
  simp only [backL, List.length_cons, backF, h, if_true]
  rw [backF_enough (r.length + 1 + 1) r r.length (by omega) (by omega)]
theorem backL_short (a : UInt8) (r : List UInt8) (h : a.toNat = 92) (hr : r.length < 2) : backL (a :: r) = none := by
  match r, hr with
  | [], _ => simp [backL, backF, h]
  | [_], _ => simp [backL, backF, h]
/-- d is read, r is ahead. -/
def backR (d r : List UInt8) : Option (List UInt8) := (backL r).map (d ++ ·)
theorem backR_nil (d : List UInt8) : backR d [] = some d := by simp [backR, backL_nil]
theorem backR_self (d : List UInt8) (s : List UInt8) (k : Nat) (h : k < s.length) (ha : (s[k]).toNat ≠ 92) : backR d (s.drop k) = backR (d ++ [s[k]]) (s.drop (k + 1)) := by
  rw [List.drop_eq_getElem_cons h]
  simp only [backR, backL_self _ _ ha, Option.map_map]
  congr 1
  funext l
  simp
theorem backR_esc (d : List UInt8) (s : List UInt8) (k : Nat) (h : k + 2 < s.length) (ha : (s[k]).toNat = 92) (h1 : digV s[k + 1] ≤ 15) (h2 : digV s[k + 2] ≤ 15) : backR d (s.drop k) = backR (d ++ [two s[k + 1] s[k + 2]]) (s.drop (k + 3)) := by
  rw [List.drop_eq_getElem_cons (show k < s.length by omega), List.drop_eq_getElem_cons (show k + 1 < s.length by omega), List.drop_eq_getElem_cons (show k + 1 + 1 < s.length by omega)]
  simp only [backR, backL_esc _ _ _ _ ha]
  rw [if_pos ⟨h1, h2⟩, Option.map_map]
  congr 1
  funext l
  simp
theorem backR_bad (d : List UInt8) (s : List UInt8) (k : Nat) (h : k + 2 < s.length) (ha : (s[k]).toNat = 92) (h1 : 15 < digV s[k + 1] ∨ 15 < digV s[k + 2]) : backR d (s.drop k) = none := by
  rw [List.drop_eq_getElem_cons (show k < s.length by omega), List.drop_eq_getElem_cons (show k + 1 < s.length by omega), List.drop_eq_getElem_cons (show k + 1 + 1 < s.length by omega)]
  simp only [backR, backL_esc _ _ _ _ ha]
  rw [if_neg (by show ¬ (digV s[k + 1] ≤ 15 ∧ digV s[k + 2] ≤ 15); omega)]
  rfl
theorem backR_short (d : List UInt8) (s : List UInt8) (k : Nat) (hk : k < s.length) (h : s.length ≤ k + 2) (ha : (s[k]).toNat = 92) : backR d (s.drop k) = none := by
  rw [List.drop_eq_getElem_cons hk]
  simp only [backR]
  rw [backL_short _ _ ha (by simp; omega)]
  rfl

theorem digit_any (c : UInt8) (w : World) : Calls Tryd.prog 22 #[.int .u8 (c.toNat : Int)] w fun e w' => e = .returned (.int .u8 (digV c : Int)) ∧ w = w' := by
  by_cases h1 : 48 ≤ c.toNat
  · have a1 : (48 : Int) ≤ c.toNat := by omega
    by_cases h2 : c.toNat ≤ 57
    · have a2 : (c.toNat : Int) ≤ 57 := by omega
      have hv : ((digV c : Nat) : Int) = (c.toNat : Int) - 48 := by unfold digV; rw [if_pos ⟨h1, h2⟩]; omega
      rw [hv]
      clear hv
      go_enter Tryd.func22, Tryd.ntmps22
      go_wp2_with fail
      go_ret
      exact ⟨rfl, rfl⟩
    · have a2 : ¬ (c.toNat : Int) ≤ 57 := by omega
      by_cases h3 : 97 ≤ c.toNat
      · have a3 : (97 : Int) ≤ c.toNat := by omega
        by_cases h4 : c.toNat ≤ 102
        · have a4 : (c.toNat : Int) ≤ 102 := by omega
          have hv : ((digV c : Nat) : Int) = (c.toNat : Int) - 97 + 10 := by unfold digV; rw [if_neg (by omega), if_pos ⟨h3, h4⟩]; omega
          rw [hv]
          clear hv
          go_enter Tryd.func22, Tryd.ntmps22
          go_wp2_with fail
          go_ret
          exact ⟨rfl, rfl⟩
        · have a4 : ¬ (c.toNat : Int) ≤ 102 := by omega
          have hv : digV c = 16 := by unfold digV; rw [if_neg (by omega), if_neg (by omega)]
          rw [hv]
          clear hv
          go_enter Tryd.func22, Tryd.ntmps22
          go_wp2_with fail
          go_ret
          exact ⟨rfl, rfl⟩
      · have a3 : ¬ (97 : Int) ≤ c.toNat := by omega
        have hv : digV c = 16 := by unfold digV; rw [if_neg (by omega), if_neg (by omega)]
        rw [hv]
        clear hv
        go_enter Tryd.func22, Tryd.ntmps22
        go_wp2_with fail
        go_ret
        exact ⟨rfl, rfl⟩
  · have a1 : ¬ (48 : Int) ≤ c.toNat := by omega
    have a3 : ¬ (97 : Int) ≤ c.toNat := by omega
    have hv : digV c = 16 := by unfold digV; rw [if_neg (by omega), if_neg (by omega)]
    rw [hv]
    clear hv
    go_enter Tryd.func22, Tryd.ntmps22
    go_wp2_with fail
    go_ret
    exact ⟨rfl, rfl⟩
theorem digV_le (c : UInt8) : digV c ≤ 16 := by
  unfold digV
  repeat' split
  all_goals omega

def backAns (s : List UInt8) : List UInt8 × Bool := match backL s with
  | some o => if plainL o = s then (o, true) else ([], false)
  | none => ([], false)
theorem backAns_none (s : List UInt8) (h : backR [] s = none) : backAns s = ([], false) := by
  have : backL s = none := by simpa [backR] using h
  simp [backAns, this]
theorem backAns_some (s d : List UInt8) (h : backR [] s = some d) : backAns s = if plainL d = s then (d, true) else ([], false) := by
  have : backL s = some d := by
    have : backR [] s = backL s := by
      unfold backR
      cases backL s <;> simp
    rw [← this]; exact h
  simp [backAns, this]

theorem digits_or (x y : UInt8) (hx : digV x ≤ 15) (hy : digV y ≤ 15) : bits BinOp.or IntKind.u8 (IntKind.u8.wrap ((digV x : Int) * 16)) (digV y : Int) = ((two x y).toNat : Int) := by
  have h : ∀ (a b : Fin 16), bits BinOp.or IntKind.u8 (IntKind.u8.wrap (((a.val : Nat) : Int) * 16)) ((b.val : Nat) : Int) = ((UInt8.ofNat (a.val * 16 + b.val)).toNat : Int) := by decide +kernel
  exact h ⟨digV x, by omega⟩ ⟨digV y, by omega⟩

set_option maxRecDepth 100000 in
set_option maxHeartbeats 4000000 in
theorem back_any (s : List UInt8) (w : World) (hs : s.length ≤ 1099511627776) (hT : Tabs w) :
    Calls Tryd.prog 16 #[Str s] w fun e w' => e = .returned (.tuple #[Str (backAns s).1, .bool (backAns s).2]) ∧ Step [] [] w w' := by
  have HT := Lib.hid hT
  clear hT
  obtain ⟨i0, hi, hz0, hz1, hz2⟩ := info_parts Tryd.info_bytes
  have HI := Lib.hid (And.intro hi (And.intro hz0 (And.intro hz1 hz2)))
  clear hi hz0 hz1 hz2
  go_enter Tryd.func16, Tryd.ntmps16
  go_wp2_with fail
  go_loopw [4, 5] (fun o i wr => ∃ (k : Nat) (a : Option Addr) (cap n : Nat), k ≤ s.length ∧ i = .int .i64 k ∧ o = .slice a n cap ∧ n ≤ k ∧ Hid (∃ d : List UInt8, d.length = n ∧ backR d (s.drop k) = backR [] s ∧ Row wr 1 a n cap (d.map bv) ∧ Step [] (blks a) w wr))
    (fun _ i _ => s.length - (RowKit.intOf i).toNat)
  case atStart => exact ⟨0, _, 0, 0, by omega, rfl, rfl, by omega, [], rfl, rfl, Row.none _ _, Step.refl _ _⟩
  case round =>
    obtain ⟨k, a, cap, n, hk, rfl, rfl, hn, HW⟩ := hrel
    by_cases hlt : k < s.length
    · have hlt' : (k : Int) < s.length := by omega
      obtain ⟨d, hd⟩ := HW.out
      have HX := Lib.hid hd
      clear hd HW
      by_cases ha : (s[k]).toNat = 92
      · have ha' : (((s[k]).toNat : Int) != 92) = false := by simp; omega
        by_cases h3 : s.length ≤ k + 2
        · have h3' : (s.length : Int) - k < 3 := by omega
          have HE := Lib.hid (backAns_none s (HX.out.2.1 ▸ backR_short d s k hlt h3 ha))
          clear ha
          go_wp2_with fail
          refine bodyPost_ret (results_tmp2 rfl _ _ _) rfl ⟨?_, HX.out.2.2.2.drop (by simp)⟩
          rw [HE.out]
          rfl
        · have h3' : ¬ (s.length : Int) - k < 3 := by omega
          have h4 : k + 2 < s.length := by omega
          have h4' : (k : Int) + 2 < s.length := by omega
          have h5' : (k : Int) + 1 < s.length := by omega
          have hk1 : k + 1 < s.length := by omega
          have hvx := digV_le (s[k + 1])
          have hvy := digV_le (s[k + 2])
          have HE0 := Lib.hid (fun h => backAns_none s (HX.out.2.1 ▸ backR_bad d s k h4 ha h))
          have HE := Lib.hid (backR_esc d s k h4 ha)
          clear ha
          obtain ⟨x, hx⟩ : ∃ x, s[k + 1] = x := ⟨_, rfl⟩
          obtain ⟨y, hy⟩ : ∃ y, s[k + 2] = y := ⟨_, rfl⟩
          rw [hx] at hvx HE HE0
          rw [hy] at hvy HE HE0
          go_wp2_with fail
          refine (digit_any x _).mono ?_
          rintro e w1 ⟨rfl, rfl⟩
          by_cases hx15 : digV x ≤ 15
          · have hx15' : ¬ (15 : Int) < digV x := by omega
            go_wp2_with fail
            refine (digit_any y _).mono ?_
            rintro e w1 ⟨rfl, rfl⟩
            by_cases hy15 : digV y ≤ 15
            · have hy15' : ¬ (15 : Int) < digV y := by omega
              have hor := digits_or x y hx15 hy15
              have HE := Lib.hid (HE.out hx15 hy15)
              go_wp2_with fail
              have q1 : IntKind.i64.wrap ((k : Int) + 1) = (k : Int) + 1 := IntWalk.i64_in _ (by omega)
              have q2 : IntKind.i64.wrap ((k : Int) + 2) = (k : Int) + 2 := IntWalk.i64_in _ (by omega)
              have q3 : ((k : Int) + 1).toNat = k + 1 := by omega
              have q4 : ((k : Int) + 2).toNat = k + 2 := by omega
              have q5 : (0 : Int) ≤ (k : Int) + 1 := by omega
              have q6 : (0 : Int) ≤ (k : Int) + 2 := by omega
              refine wp_region_held_drew (S := fun _ => True) (by kernel_rfl) (trivial) (fun hHeld => ?_)
              refine wpAnyH_take (i := 0) (v := ?_) rfl (by kernel_rfl) (by kernel_rfl) (by kernel_rfl) (fun _ _ _ h => h) (Or.inl ⟨by rfl, ?_⟩) hHeld ?_
              rotate_left
              · intro w hSw
                have hSw1 := hSw
                clear hSw
                try dsimp only at hSw1
                go_simp
                try (with_reducible rfl)
              try simp only [Act.put, List.setIfInBounds_toArray, List.set_cons_zero, List.set_cons_succ, List.getElem_toArray, List.getElem_cons_zero, List.getElem_cons_succ]
              refine wpAnyH_take (i := 1) (v := ?_) rfl (by kernel_rfl) (by kernel_rfl) (by kernel_rfl) (fun _ _ _ h => h) (Or.inl ⟨by rfl, ?_⟩) hHeld ?_
              rotate_left
              · intro w hSw
                have hSw1 := hSw
                clear hSw
                try dsimp only at hSw1
                go_simp
                try (with_reducible rfl)
              try simp only [Act.put, List.setIfInBounds_toArray, List.set_cons_zero, List.set_cons_succ, List.getElem_toArray, List.getElem_cons_zero, List.getElem_cons_succ]
              refine wpAnyH_take (i := 2) (v := ?_) rfl (by kernel_rfl) (by kernel_rfl) (by kernel_rfl) (fun _ _ _ h => h) (Or.inl ⟨by rfl, ?_⟩) hHeld ?_
              rotate_left
              · intro w hSw
                have hSw1 := hSw
                clear hSw
                try dsimp only at hSw1
                go_simp
                try (with_reducible rfl)
              try simp only [Act.put, List.setIfInBounds_toArray, List.set_cons_zero, List.set_cons_succ, List.getElem_toArray, List.getElem_cons_zero, List.getElem_cons_succ]
              refine wpAnyH_take (i := 3) (v := ?_) rfl (by kernel_rfl) (by kernel_rfl) (by kernel_rfl) (fun _ _ _ h => h) (Or.inl ⟨by rfl, ?_⟩) hHeld ?_
              rotate_left
              · intro w hSw
                have hSw1 := hSw
                clear hSw
                try dsimp only at hSw1
                go_simp
                try (with_reducible rfl)
              try simp only [Act.put, List.setIfInBounds_toArray, List.set_cons_zero, List.set_cons_succ, List.getElem_toArray, List.getElem_cons_zero, List.getElem_cons_succ]
              refine wpAnyH_take (i := 4) (v := ?_) rfl (by kernel_rfl) (by kernel_rfl) (by kernel_rfl) (fun _ _ _ h => h) (Or.inl ⟨by rfl, ?_⟩) hHeld ?_
              rotate_left
              · intro w hSw
                have hSw1 := hSw
                clear hSw
                try dsimp only at hSw1
                go_simp
                try (with_reducible rfl)
              try simp only [Act.put, List.setIfInBounds_toArray, List.set_cons_zero, List.set_cons_succ, List.getElem_toArray, List.getElem_cons_zero, List.getElem_cons_succ]
              refine wpAnyH_take (i := 7) (v := ?_) rfl (by kernel_rfl) (by kernel_rfl) (by kernel_rfl) (fun _ _ _ h => h) (Or.inl ⟨by rfl, ?_⟩) hHeld ?_
              rotate_left
              · intro w hSw
                have hSw1 := hSw
                clear hSw
                try dsimp only at hSw1
                go_simp
                try (with_reducible rfl)
              try simp only [Act.put, List.setIfInBounds_toArray, List.set_cons_zero, List.set_cons_succ, List.getElem_toArray, List.getElem_cons_zero, List.getElem_cons_succ]
              refine wpAnyH_take (i := 8) (v := ?_) rfl (by kernel_rfl) (by kernel_rfl) (by kernel_rfl) (fun _ _ _ h => h) (Or.inl ⟨by rfl, ?_⟩) hHeld ?_
              rotate_left
              · intro w hSw
                have hSw1 := hSw
                clear hSw
                try dsimp only at hSw1
                go_simp
                try (with_reducible rfl)
              try simp only [Act.put, List.setIfInBounds_toArray, List.set_cons_zero, List.set_cons_succ, List.getElem_toArray, List.getElem_cons_zero, List.getElem_cons_succ]
              refine wpAnyH_take (i := 9) (v := ?_) rfl (by kernel_rfl) (by kernel_rfl) (by kernel_rfl) (fun _ _ _ h => h) (Or.inl ⟨by rfl, ?_⟩) hHeld ?_
              rotate_left
              · intro w hSw
                have hSw1 := hSw
                clear hSw
                try dsimp only at hSw1
                go_simp
                try (with_reducible rfl)
              try simp only [Act.put, List.setIfInBounds_toArray, List.set_cons_zero, List.set_cons_succ, List.getElem_toArray, List.getElem_cons_zero, List.getElem_cons_succ]
              refine wpAnyH_take (i := 10) (v := ?_) rfl (by kernel_rfl) (by kernel_rfl) (by kernel_rfl) (fun _ _ _ h => h) (Or.inl ⟨by rfl, ?_⟩) hHeld ?_
              rotate_left
              · intro w hSw
                have hSw1 := hSw
                clear hSw
                try dsimp only at hSw1
                go_simp
                try (with_reducible rfl)
              try simp only [Act.put, List.setIfInBounds_toArray, List.set_cons_zero, List.set_cons_succ, List.getElem_toArray, List.getElem_cons_zero, List.getElem_cons_succ]
              refine wpAnyH_ready (rs := [5]) (by kernel_rfl) (by simp) ?_
              refine AllReadyH.cons rfl (fun K hK => ?_) AllReadyH.nil
              go_simp
              refine (digit_any x _).mono ?_; rintro e w5 ⟨rfl, rfl⟩
              go_wp2_with fail
              refine hK.out _ _ (trivial) (fun hHeld2 => ?_)
              clear hK K hHeld
              try simp only [Act.put, List.setIfInBounds_toArray, List.set_cons_zero, List.set_cons_succ, List.getElem_toArray, List.getElem_cons_zero, List.getElem_cons_succ]
              refine wpAnyH_take (i := 6) (v := ?_) rfl (by kernel_rfl) (by kernel_rfl) (by kernel_rfl) (fun _ _ _ h => h) (Or.inl ⟨by rfl, ?_⟩) hHeld2 ?_
              rotate_left
              · intro w hSw
                have hSw1 := hSw
                clear hSw
                try dsimp only at hSw1
                go_simp
                try (with_reducible rfl)
              try simp only [Act.put, List.setIfInBounds_toArray, List.set_cons_zero, List.set_cons_succ, List.getElem_toArray, List.getElem_cons_zero, List.getElem_cons_succ]
              refine wpAnyH_ready (rs := [11]) (by kernel_rfl) (by simp) ?_
              refine AllReadyH.cons rfl (fun K hK => ?_) AllReadyH.nil
              go_simp
              refine (digit_any y _).mono ?_; rintro e w5 ⟨rfl, rfl⟩
              go_wp2_with fail
              refine hK.out _ _ (trivial) (fun hHeld3 => ?_)
              clear hK K hHeld2
              try simp only [Act.put, List.setIfInBounds_toArray, List.set_cons_zero, List.set_cons_succ, List.getElem_toArray, List.getElem_cons_zero, List.getElem_cons_succ]
              refine wpAnyH_take (i := 12) (v := ?_) rfl (by kernel_rfl) (by kernel_rfl) (by kernel_rfl) (fun _ _ _ h => h) (Or.inl ⟨by rfl, ?_⟩) hHeld3 ?_
              rotate_left
              · intro w hSw
                have hSw1 := hSw
                clear hSw
                try dsimp only at hSw1
                go_simp
                try (with_reducible rfl)
              try simp only [Act.put, List.setIfInBounds_toArray, List.set_cons_zero, List.set_cons_succ, List.getElem_toArray, List.getElem_cons_zero, List.getElem_cons_succ]
              refine wpAnyH_ready (rs := [13]) (by kernel_rfl) (by simp) ?_
              refine AllReadyH.cons rfl (fun K hK => ?_) AllReadyH.nil
              go_simp
              
              go_wp2_with fail
              refine hK.out _ _ (trivial) (fun hHeld4 => ?_)
              clear hK K hHeld3
              try simp only [Act.put, List.setIfInBounds_toArray, List.set_cons_zero, List.set_cons_succ, List.getElem_toArray, List.getElem_cons_zero, List.getElem_cons_succ]
              refine wpAnyH_ready (rs := [14]) (by kernel_rfl) (by simp) ?_
              refine AllReadyH.cons rfl (fun K hK => ?_) AllReadyH.nil
              clear q1 q2 q3 q4 q5 q6; refine step_append_row rfl (.tmp 43) (.tmp 56) 31 31 rfl 5 i0 _ 1 1 Tryd.underlying31 HI.out.1 HI.out.2.1 HI.out.2.2.1 HI.out.2.2.2 rfl rfl (HX.out.2.2.1.drew.alloc _) rfl (Src.rd 31 5 Tryd.underlying31 (row_fresh wr.drew 5 ([two x y].map bv) (by simp; unfold maxLen; omega)).rd one_of_map) (by unfold maxLen; simp; omega) (by simp; omega) (by omega) ?_; intro a3 cap3 w8 hr3 hst3
              refine hK.out _ _ (trivial) (fun hHeld5 => ?_)
              clear hK K hHeld4
              try simp only [Act.put, List.setIfInBounds_toArray, List.set_cons_zero, List.set_cons_succ, List.getElem_toArray, List.getElem_cons_zero, List.getElem_cons_succ]
              refine wpAnyH_take (i := 15) (v := ?_) rfl (by kernel_rfl) (by kernel_rfl) (by kernel_rfl) (fun _ _ _ h => h) (Or.inl ⟨by rfl, ?_⟩) hHeld5 ?_
              rotate_left
              · intro w hSw
                have hSw1 := hSw
                clear hSw
                try dsimp only at hSw1
                go_simp
                try (with_reducible rfl)
              try simp only [Act.put, List.setIfInBounds_toArray, List.set_cons_zero, List.set_cons_succ, List.getElem_toArray, List.getElem_cons_zero, List.getElem_cons_succ]
              refine wpAnyH_done (by kernel_rfl) ?_ _
              go_wp2_with fail
              go_roundw
              case rel =>
                refine ⟨k + 3, a3, cap3, n + 1, by omega, by go_num, rfl, by omega, d ++ [two x y], by simp [HX.out.1], ?_, by rw [List.map_append]; exact hr3, (HX.out.2.2.2.drew.alloc _).trans hst3⟩
                rw [← HX.out.2.1, HE.out]
              case measure => simp [RowKit.intOf]; omega
            · have hy15' : (15 : Int) < digV y := by omega
              have HEE := Lib.hid (HE0.out (.inr (by omega)))
              go_wp2_with fail
              refine bodyPost_ret (results_tmp2 rfl _ _ _) rfl ⟨?_, HX.out.2.2.2.drop (by simp)⟩
              rw [HEE.out]
              rfl
          · have hx15' : (15 : Int) < digV x := by omega
            have HEE := Lib.hid (HE0.out (.inl (by omega)))
            go_wp2_with fail
            refine bodyPost_ret (results_tmp2 rfl _ _ _) rfl ⟨?_, HX.out.2.2.2.drop (by simp)⟩
            rw [HEE.out]
            rfl
      · have ha' : (((s[k]).toNat : Int) != 92) = true := by simp; omega
        have HE := Lib.hid (backR_self d s k hlt ha)
        clear ha
        go_wp2_with (at_builtin; refine wpList_append_row rfl (.tmp 16) (.tmp 20) 31 31 rfl 5 i0 _ 1 1 Tryd.underlying31 HI.out.1 HI.out.2.1 HI.out.2.2.1 HI.out.2.2.2 rfl rfl (HX.out.2.2.1.alloc _) rfl (Src.rd 31 5 Tryd.underlying31 (row_fresh wr 5 ([s[k]].map bv) (by simp; unfold maxLen; omega)).rd one_of_map) (by unfold maxLen; simp; omega) (by simp; omega) (by omega) ?_; intro a3 cap3 w8 hr3 hst3)
        have H3 := Lib.hid (And.intro hr3 hst3)
        clear hr3 hst3
        go_wp2_with fail
        go_roundw
        case rel =>
          refine ⟨k + 1, a3, cap3, n + 1, by omega, by go_num, rfl, by omega, d ++ [s[k]], by simp [HX.out.1], ?_, by rw [List.map_append]; exact H3.out.1, (HX.out.2.2.2.alloc _).trans H3.out.2⟩
          rw [← HE.out]; exact HX.out.2.1
        case measure => simp [RowKit.intOf]; omega
    · obtain rfl : k = s.length := by omega
      obtain ⟨d, hd1, hd2, hd3, hd4⟩ := HW.out
      rw [List.drop_length, backR_nil] at hd2
      have HA := Lib.hid (backAns_some s d hd2.symm)
      have HX := Lib.hid (And.intro hd3 hd4)
      have hdl : d.length ≤ 1099511627776 := by omega
      clear hd3 hd4 HW hd1 hd2
      go_wp2_with fail
      rw [run_str_of_row 31 9 5 Tryd.underlying31 Tryd.underlying5 Tryd.underlying9 HX.out.1]
      rw [Result.andThen_ok, Oper.upon_value]
      go_wp2_with fail
      refine (plain_any d wr hdl (HT.out.step HX.out.2)).mono ?_
      rintro e w3 ⟨rfl, hb⟩
      have HB := Lib.hid hb
      clear hb
      cases hpd : (plainL d == s) with
      | false =>
        have HN : Hid (backAns s = ([], false)) := by
          show _ = _
          rw [HA.out, if_neg (by intro h; rw [h] at hpd; simp at hpd)]
        go_wp2_with fail
        refine bodyPost_ret (results_tmp2 rfl _ _ _) rfl ⟨?_, (HX.out.2.trans (HB.out.keep _)).drop (by simp)⟩
        rw [HN.out]
        rfl
      | true =>
        have HN : Hid (backAns s = (d, true)) := by
          show _ = _
          rw [HA.out, if_pos (by simpa using hpd)]
        go_wp2_with fail
        rw [run_str_of_row 31 9 5 Tryd.underlying31 Tryd.underlying5 Tryd.underlying9 (HX.out.1.step HB.out (by simp))]
        rw [Result.andThen_ok, Oper.upon_value]
        go_wp2_with fail
        refine bodyPost_ret (results_tmp2 rfl _ _ _) rfl ⟨?_, (HX.out.2.trans (HB.out.keep _)).drop (by simp)⟩
        rw [HN.out]
        rfl
end Go.Proofs.YtbdknljpbgocmaaDoor
