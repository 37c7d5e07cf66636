/-
  utf8's tables out of what the rows list. Condition: the tables as Go lays them.
-/
import Derived.Test.YtfkjgkgflkhbnaaDoorNameOwn
import Derived.Test.YtfkjgkgflkhbnaaDoorOpen
import Derived.Test.YtfkjgkgflkhbnaaDoorTie
import Derived.Test.YtfkjgkgflkhbnaaDoorCards
import Derived.Lib.LaidU8T
import Derived.Lay
import Derived.LaidMore
import Derived.MakeChecks
import Derived.SevenTiedAt
namespace Go.Proofs.YtfkjgkgflkhbnaaDoor
open Go.RowKit Go.Lib
set_option linter.unusedSimpArgs false
set_option linter.unusedVariables false

abbrev tabsLaid : List (String × DataW Unit) := [("unicode/utf8.acceptRanges", Rows.laid_unicode_utf8_acceptRanges), ("unicode/utf8.first", Rows.laid_unicode_utf8_first)]
theorem first_eq : Rows.laid_unicode_utf8_first = firstData := by kernel_rfl
theorem accept_eq : (Rows.laid_unicode_utf8_acceptRanges : DataW Unit) = acceptData := by kernel_rfl
theorem tabs_of_laid {W : World} (hL : laidMetH Tryd.prog tabsLaid W) : Tabs W := by
  rw [MakeChecks.laidMetH_plain _ _ _ (by kernel_rfl)] at hL
  exact utf8Tabs_of_readsT (ρ := Tryd.lays197_ren) (U8Types.of260 { Tryd.lays197 with }) ⟨by kernel_rfl, by kernel_rfl, by kernel_rfl, by kernel_rfl, by kernel_rfl, by kernel_rfl, by kernel_rfl⟩
    (first_eq ▸ laidMet.reads hL (.tail _ (.head _))) (accept_eq ▸ laidMet.reads hL (.head _))

end Go.Proofs.YtfkjgkgflkhbnaaDoor
