/-
  Chapter 8's functions on a nil disk. Condition of Save: the library's table.
-/
import Derived.Test.YtnkbphecabnnaaaGreatDoorZShC
namespace Go.Proofs.YtnkbphecabnnaaaGreatDoor
open Go.RowKit Go.Maps
set_option linter.unusedSimpArgs false
set_option linter.unusedVariables false
set_option maxRecDepth 100000

end Go.Proofs.YtnkbphecabnnaaaGreatDoor
