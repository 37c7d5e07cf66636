/-
  Layer 4's reference: within, tail. Condition: places up to 2^40.
-/
import Derived.Test.YtfkjgkgflkhbnaaDoorNameSpec
import Derived.Test.YtfkjgkgflkhbnaaDoorMem
import Derived.Test.YtfkjgkgflkhbnaaDoorRows
namespace Go.Proofs.YtfkjgkgflkhbnaaDoor
open Go.RowKit
set_option linter.unusedSimpArgs false
set_option linter.unusedVariables false

def inB (s : List UInt8) (at' lo hi : Nat) : Bool := match s[at']? with
  | some c => decide (lo ≤ c.toNat) && decide (c.toNat ≤ hi)
  | none => false

set_option maxHeartbeats 400000 in
theorem within_any (s : List UInt8) (at' lo hi : Nat) (w : World) (hs : s.length ≤ 1099511627776) (ha : at' ≤ 1099511627776) :
    Calls Tryd.prog 53 #[Str s, .int .i64 at', .int .u8 lo, .int .u8 hi] w fun e w' => e = .returned (.bool (inB s at' lo hi)) ∧ w = w' := by
  by_cases hlt : at' < s.length
  · have hlt' : (at' : Int) < s.length := by omega
    obtain ⟨c, hc⟩ : ∃ c, s[at'] = c := ⟨_, rfl⟩
    have hin : inB s at' lo hi = (decide (lo ≤ c.toNat) && decide (c.toNat ≤ hi)) := by simp [inB, hlt, hc]
    by_cases h1 : lo ≤ c.toNat
    · have h1' : (lo : Int) ≤ c.toNat := by omega
      by_cases h2 : c.toNat ≤ hi
      · have h2' : (c.toNat : Int) ≤ hi := by omega
        rw [hin, decide_eq_true h1, decide_eq_true h2]
        clear hin h1 h2
        go_enter Tryd.func53, Tryd.ntmps53
        go_wp2_with fail
        go_ret
        exact ⟨rfl, rfl⟩
      · have h2' : ¬ (c.toNat : Int) ≤ hi := by omega
        rw [hin, decide_eq_true h1, decide_eq_false h2]
        clear hin h1 h2
        go_enter Tryd.func53, Tryd.ntmps53
        go_wp2_with fail
        go_ret
        exact ⟨rfl, rfl⟩
    · have h1' : ¬ (lo : Int) ≤ c.toNat := by omega
      rw [hin, decide_eq_false h1]
      clear hin h1
      go_enter Tryd.func53, Tryd.ntmps53
      go_wp2_with fail
      go_ret
      exact ⟨rfl, rfl⟩
  · have hlt' : ¬ (at' : Int) < s.length := by omega
    have hin : inB s at' lo hi = false := by simp [inB, hlt]
    rw [hin]
    clear hin
    go_enter Tryd.func53, Tryd.ntmps53
    go_wp2_with fail
    go_ret
    exact ⟨rfl, rfl⟩

theorem within_at (s : List UInt8) (at' lo hi : Nat) (i l h : Int) (hi' : i = (at' : Int)) (hl : l = (lo : Int)) (hh : h = (hi : Int)) (w : World) (hs : s.length ≤ 1099511627776) (ha : at' ≤ 1099511627776) :
    Calls Tryd.prog 53 #[Str s, .int .i64 i, .int .u8 l, .int .u8 h] w fun e w' => e = .returned (.bool (inB s at' lo hi)) ∧ w = w' := by
  subst hi' hl hh; exact within_any s at' lo hi w hs ha
def tl (s : List UInt8) (at' n : Nat) : Bool := (List.range n).all (fun i => inB s (at' + i) 128 191)

set_option maxHeartbeats 400000 in
theorem tail_any (s : List UInt8) (at' n : Nat) (w : World) (hs : s.length ≤ 1099511627776) (ha : at' ≤ 1000) (hn : n ≤ 1000) :
    Calls Tryd.prog 54 #[Str s, .int .i64 at', .int .i64 n] w fun e w' => e = .returned (.bool (tl s at' n)) ∧ w = w' := by
  go_enter Tryd.func54, Tryd.ntmps54
  go_wp2_with fail
  go_loopw [7] (fun i wr => ∃ k : Nat, k ≤ n ∧ i = .int .i64 k ∧ Hid (tl s at' k = true ∧ wr = w))
    (fun i _ => n - (intOf i).toNat)
  case atStart => exact ⟨0, by omega, rfl, by simp [tl], rfl⟩
  case round =>
    obtain ⟨k, hk, rfl, HW⟩ := hrel
    by_cases hlt : k < n
    · have hlt' : (k : Int) < n := by omega
      go_wp2_with fail
      refine (within_at s (at' + k) 128 191 _ _ _ (by omega) rfl rfl wr hs (by omega)).mono ?_
      rintro e w1 ⟨rfl, rfl⟩
      cases hb : inB s (at' + k) 128 191 with
      | true =>
        go_wp2_with fail
        go_roundw
        case rel =>
          refine ⟨k + 1, by omega, by go_num, ?_, HW.out.2⟩
          have := HW.out.1
          simp only [tl] at this ⊢
          rw [List.range_succ, List.all_append, this]
          simp [hb]
        case measure => simp [intOf]; omega
      | false =>
        go_wp2_with fail
        go_ret
        have : tl s at' n = false := by
          simp only [tl, List.all_eq_false]
          exact ⟨k, by simp [hlt], by simp [hb]⟩
        rw [this]
        exact ⟨rfl, HW.out.2.symm⟩
    · obtain rfl : k = n := by omega
      go_wp2_with fail
      go_ret
      rw [HW.out.1]
      exact ⟨rfl, HW.out.2.symm⟩
end Go.Proofs.YtfkjgkgflkhbnaaDoor
