/-
  Layer 4's statements: awake; utf8's tables out of what the rows list. Condition: the tables as Go lays them.
-/
import Derived.Test.YtbdknljpbgocmaaDoorNameFacts
import Derived.Test.YtbdknljpbgocmaaDoorOpen
import Derived.Test.YtbdknljpbgocmaaDoorTie
import Derived.Test.YtbdknljpbgocmaaDoorCards
import Derived.Lib.LaidU8T
import Derived.Lay
import Derived.LaidMore
import Derived.MakeChecks
import Derived.SevenTiedAt
namespace Go.Proofs.YtbdknljpbgocmaaDoor
open Go.RowKit Go.Lib
set_option linter.unusedSimpArgs false
set_option linter.unusedVariables false

abbrev tabsLaid : List (String × DataW Unit) := [("unicode/utf8.acceptRanges", Rows.laid_unicode_utf8_acceptRanges), ("unicode/utf8.first", Rows.laid_unicode_utf8_first)]
theorem first_eq : Rows.laid_unicode_utf8_first = firstData := by kernel_rfl
theorem accept_eq : (Rows.laid_unicode_utf8_acceptRanges : DataW Unit) = acceptData := by kernel_rfl
theorem tabs_of_laid {W : World} (hL : laidMetH Tryd.prog tabsLaid W) : Tabs W := by
  rw [MakeChecks.laidMetH_plain _ _ _ (by kernel_rfl)] at hL
  exact utf8Tabs_of_readsT (ρ := Tryd.lays197_ren) (U8Types.of260 { Tryd.lays197 with }) ⟨by kernel_rfl, by kernel_rfl, by kernel_rfl, by kernel_rfl, by kernel_rfl, by kernel_rfl, by kernel_rfl⟩
    (first_eq ▸ laidMet.reads hL (.tail _ (.head _))) (accept_eq ▸ laidMet.reads hL (.head _))

theorem aw1 : rightL [114, 111, 111, 116] = true := by kernel_rfl
theorem aw2 : rightL [45, 97] = false := by kernel_rfl
theorem aw3 : plainL [10, 195, 169] = [92, 48, 97, 195, 169] := by kernel_rfl
theorem aw4 : countR 0 [195, 169] = 1 := by kernel_rfl
set_option maxHeartbeats 400000 in
theorem awake_true (w : World) (hT : Tabs w) : Calls Tryd.prog 9 #[] w fun e w' => e = .returned (.bool true) ∧ Step [] [] w w' := by
  have HT := Lib.hid hT
  have H1 := Lib.hid aw1
  have H2 := Lib.hid aw2
  have H3 := Lib.hid aw3
  have H4 := Lib.hid aw4
  clear hT
  go_enter Tryd.func9, Tryd.ntmps9
  go_wp2_with fail
  refine (right_any [114, 111, 111, 116] w (by simp) HT.out).mono ?_
  rintro e w1 ⟨rfl, h1⟩
  rw [H1.out]
  have HT1 := Lib.hid (HT.out.step h1)
  go_wp2_with fail
  refine (right_any [45, 97] w1 (by simp) HT1.out).mono ?_
  rintro e w2 ⟨rfl, h2⟩
  rw [H2.out]
  have HT2 := Lib.hid (HT1.out.step h2)
  go_wp2_with fail
  refine (plain_any [10, 195, 169] w2 (by simp) HT2.out).mono ?_
  rintro e w3 ⟨rfl, h3⟩
  rw [H3.out]
  have HT3 := Lib.hid (HT2.out.step h3)
  go_wp2_with fail
  refine (count_any [195, 169] w3 (by simp) HT3.out).mono ?_
  rintro e w4 ⟨rfl, h4⟩
  rw [H4.out]
  go_wp2_with fail
  go_ret
  exact ⟨rfl, ((h1.trans h2).trans h3).trans h4⟩
end Go.Proofs.YtbdknljpbgocmaaDoor
