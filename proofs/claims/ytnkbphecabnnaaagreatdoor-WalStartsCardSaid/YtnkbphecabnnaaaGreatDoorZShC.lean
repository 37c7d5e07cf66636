/-
  shot.Clean.
-/
import Derived.Test.YtnkbphecabnnaaaGreatDoorZShL
namespace Go.Proofs.YtnkbphecabnnaaaGreatDoor
open Go.RowKit Go.Maps
set_option linter.unusedSimpArgs false
set_option linter.unusedVariables false
set_option maxRecDepth 100000

end Go.Proofs.YtnkbphecabnnaaaGreatDoor
