/-
 law24's awake. No condition.
-/
import Derived.Test.YtjfaplmojpldhaaZGC
import Derived.Test.YtjfaplmojpldhaaZCli
namespace Go.Proofs.Ytjfaplmojpldhaa
open Go.RowKit
set_option linter.unusedSimpArgs false
set_option linter.unusedVariables false
set_option maxRecDepth 100000

def wakeX : Cm := ⟨0, 0, [], 3, [], [], [], [], 0, 0, [], [], false, false, 0, [], [], []⟩
def wakeY : Cm := ⟨1, 1, [], 3, [], [], [], [], 0, 0, [], [], false, false, 0, [], [], []⟩
def wakeS : List UInt8 := [1, 3, 1, 1, 1, 1, 0, 0]
theorem numB_smallW (n : Nat) (h0 : 0 < n) (h : n < 256) : numB n = [1, UInt8.ofNat n] := by
 unfold numB
 rw [be_pos n h0, show n / 256 = 0 by omega, be_zero]
 rfl
theorem numB_zeroW : numB 0 = [0] := by unfold numB; rw [be_zero]; rfl
theorem wakeY_bytes : reqB wakeY = wakeS := by
 simp [reqB, reqIts, tailIts, wakeY, wakeS, itsB_cons, itsB_nil, nI_B, tI_B, numB_smallW, numB_zeroW]
theorem wakeY_enc : encC wakeY = (wakeS, 0) := by
 rw [encC_right wakeY rfl rfl (by simp only [rightC, wakeY_bytes]; decide), wakeY_bytes]
def wkT (i : Nat) : Int := if i = 0 ∨ i = 1 ∨ i = 2 ∨ i = 7 then 1 else if i = 3 ∨ i = 4 then 2 else 3
def wkW (i : Nat) : Int := if i = 0 then 0 else if i % 2 = 1 then 1 else 2
def wk (i : Nat) : Ct := ⟨1, 3, 2, 1, wakeS, [], wkT i, wkW i, anZ⟩
theorem wk_b (i : Nat) : CtB (wk i) := by
 refine ⟨by simp [wk], by simp [wk], by simp [wk], by simp [wk], ?_, ?_, by simp [wk]⟩
 ·simp only [wk, wkT]
  repeat' split
  all_goals omega
 ·simp only [wk, wkW]
  repeat' split
  all_goals omega
theorem wake_ask : askC (newC 1 3 2) wakeX = (wk 0, (wakeS, 0)) := by
 unfold askC
 have e : cleanC (askX (newC 1 3 2) wakeX) = wakeY := by decide
 rw [e, wakeY_enc, if_neg (by simp [newC]), if_neg (by simp [newC]), if_neg (by decide), if_pos rfl]
 rfl
theorem wk_tick (i : Nat) (h : i < 7) : tickC (wk i) = (wk (i + 1), if i % 2 = 0 then (wkT (i + 1), wakeS, true) else (0, [], false)) := by
 have : i = 0 ∨ i = 1 ∨ i = 2 ∨ i = 3 ∨ i = 4 ∨ i = 5 ∨ i = 6 := by omega
 rcases this with rfl | rfl | rfl | rfl | rfl | rfl | rfl <;> rfl
set_option maxHeartbeats 8000000 in
theorem awake24_true (w : World) : Calls Try.prog 8 #[] w fun e w' => e = .returned (.bool true) ∧ Step [] [] w w' := by
 go_enter Try.func8, Try.ntmps8
 go_wp2_with fail
 refine (new_any 1 3 2 w).mono ?_
 rintro e w1 ⟨h1 | h1, k1⟩
 ·obtain ⟨_, rfl, g1⟩ := h1
  obtain ⟨b, hb⟩ : ∃ b, b = w.heap.size := ⟨_, rfl⟩
  rw [← hb] at g1 ⊢
  have H1 : Hid (Blk w1 b 95 (ctc (newC 1 3 2) (.slice none 0 0)).toArray ∧ Step [] [b] w w1) := Lib.hid ⟨g1, ⟨k1.os, k1.tape, k1.output, k1.size, k1.block, fun g hg => by simp at hg; subst hg; exact .inr (by omega)⟩⟩
  clear k1 g1 hb
  go_wp2_with fail
  refine (ask_any (newC 1 3 2) (.slice none 0 0) b wakeX none none none 0 0 0 w1 H1.out.1 (newC_b rfl) (RdC.nil w1 wakeX rfl rfl rfl) ⟨by decide, by decide, by decide, by decide, by decide, by decide, by decide, by decide, by decide, by decide, by decide, by decide, by simp [askX, wakeX], by simp [askX, wakeX], by simp [askX, wakeX]⟩ ⟨by decide, by decide, by decide⟩).mono ?_
  rintro e w2 ⟨rfl, g2, k2⟩
  rw [wake_ask] at g2 ⊢
  have H2 := Lib.hid (And.intro g2 (H1.out.2.trans k2))
  clear g2 k2 H1
  go_wp2_with fail
  go_loopw [27] (fun v W => ∃ i : Nat, i ≤ 7 ∧ v = .int .i64 i ∧ Hid (Blk W b 95 (ctc (wk i) (.slice none 0 0)).toArray ∧ Step [] [b] w W)) (fun v _ => 7 - (intOf v).toNat)
  case atStart => exact ⟨0, by omega, rfl, H2.out⟩
  case round =>
   clear H2
   rename World => W
   obtain ⟨i, hi, rfl, HW⟩ := hrel
   by_cases h7 : i < 7
   ·obtain rfl | rfl | rfl | rfl | rfl | rfl | rfl : i = 0 ∨ i = 1 ∨ i = 2 ∨ i = 3 ∨ i = 4 ∨ i = 5 ∨ i = 6 := by omega
    ·have HT := Lib.hid (wk_tick 0 (by omega))
     go_wp2_with fail
     refine (tick_any (wk 0) _ b W HW.out.1 (wk_b 0)).mono ?_
     rintro e W1 ⟨rfl, g1, k1⟩
     rw [show tickC (wk 0) = (wk 1, (1, wakeS, true)) from HT.out] at g1
     rw [show tickC (wk 0) = (wk 1, (1, wakeS, true)) from HT.out]
     have H9 := Lib.hid (And.intro g1 (HW.out.2.trans k1))
     clear g1 k1 HW
     go_wp2_with fail
     go_roundw
     case rel => exact ⟨1, by omega, rfl, H9.out⟩
     case measure => simp [intOf]
    ·have HT := Lib.hid (wk_tick 1 (by omega))
     go_wp2_with fail
     refine (tick_any (wk 1) _ b W HW.out.1 (wk_b 1)).mono ?_
     rintro e W1 ⟨rfl, g1, k1⟩
     rw [show tickC (wk 1) = (wk 2, (0, [], false)) from HT.out] at g1
     rw [show tickC (wk 1) = (wk 2, (0, [], false)) from HT.out]
     have H9 := Lib.hid (And.intro g1 (HW.out.2.trans k1))
     clear g1 k1 HW
     go_wp2_with fail
     go_roundw
     case rel => exact ⟨2, by omega, rfl, H9.out⟩
     case measure => simp [intOf]
    ·have HT := Lib.hid (wk_tick 2 (by omega))
     go_wp2_with fail
     refine (tick_any (wk 2) _ b W HW.out.1 (wk_b 2)).mono ?_
     rintro e W1 ⟨rfl, g1, k1⟩
     rw [show tickC (wk 2) = (wk 3, (2, wakeS, true)) from HT.out] at g1
     rw [show tickC (wk 2) = (wk 3, (2, wakeS, true)) from HT.out]
     have H9 := Lib.hid (And.intro g1 (HW.out.2.trans k1))
     clear g1 k1 HW
     go_wp2_with fail
     go_roundw
     case rel => exact ⟨3, by omega, rfl, H9.out⟩
     case measure => simp [intOf]
    ·have HT := Lib.hid (wk_tick 3 (by omega))
     go_wp2_with fail
     refine (tick_any (wk 3) _ b W HW.out.1 (wk_b 3)).mono ?_
     rintro e W1 ⟨rfl, g1, k1⟩
     rw [show tickC (wk 3) = (wk 4, (0, [], false)) from HT.out] at g1
     rw [show tickC (wk 3) = (wk 4, (0, [], false)) from HT.out]
     have H9 := Lib.hid (And.intro g1 (HW.out.2.trans k1))
     clear g1 k1 HW
     go_wp2_with fail
     go_roundw
     case rel => exact ⟨4, by omega, rfl, H9.out⟩
     case measure => simp [intOf]
    ·have HT := Lib.hid (wk_tick 4 (by omega))
     go_wp2_with fail
     refine (tick_any (wk 4) _ b W HW.out.1 (wk_b 4)).mono ?_
     rintro e W1 ⟨rfl, g1, k1⟩
     rw [show tickC (wk 4) = (wk 5, (3, wakeS, true)) from HT.out] at g1
     rw [show tickC (wk 4) = (wk 5, (3, wakeS, true)) from HT.out]
     have H9 := Lib.hid (And.intro g1 (HW.out.2.trans k1))
     clear g1 k1 HW
     go_wp2_with fail
     go_roundw
     case rel => exact ⟨5, by omega, rfl, H9.out⟩
     case measure => simp [intOf]
    ·have HT := Lib.hid (wk_tick 5 (by omega))
     go_wp2_with fail
     refine (tick_any (wk 5) _ b W HW.out.1 (wk_b 5)).mono ?_
     rintro e W1 ⟨rfl, g1, k1⟩
     rw [show tickC (wk 5) = (wk 6, (0, [], false)) from HT.out] at g1
     rw [show tickC (wk 5) = (wk 6, (0, [], false)) from HT.out]
     have H9 := Lib.hid (And.intro g1 (HW.out.2.trans k1))
     clear g1 k1 HW
     go_wp2_with fail
     go_roundw
     case rel => exact ⟨6, by omega, rfl, H9.out⟩
     case measure => simp [intOf]
    ·have HT := Lib.hid (wk_tick 6 (by omega))
     go_wp2_with fail
     refine (tick_any (wk 6) _ b W HW.out.1 (wk_b 6)).mono ?_
     rintro e W1 ⟨rfl, g1, k1⟩
     rw [show tickC (wk 6) = (wk 7, (1, wakeS, true)) from HT.out] at g1
     rw [show tickC (wk 6) = (wk 7, (1, wakeS, true)) from HT.out]
     have H9 := Lib.hid (And.intro g1 (HW.out.2.trans k1))
     clear g1 k1 HW
     go_wp2_with fail
     go_roundw
     case rel => exact ⟨7, by omega, rfl, H9.out⟩
     case measure => simp [intOf]
   ·obtain rfl : i = 7 := by omega
    go_wp2_with fail
    refine (seqC_any (wk 7) (.slice none 0 0) b W HW.out.1).mono ?_
    rintro e W1 ⟨rfl, rfl⟩
    go_wp2_with fail
    exact bodyPost_ret (results_tmp rfl _ _ _) rfl ⟨rfl, HW.out.2.drop (by simp)⟩
 ·exact absurd h1.1 (by decide)
end Go.Proofs.Ytjfaplmojpldhaa
