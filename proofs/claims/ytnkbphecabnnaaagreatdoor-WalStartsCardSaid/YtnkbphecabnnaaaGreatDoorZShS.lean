/-
  shot.Save.
-/
import Derived.Test.YtnkbphecabnnaaaGreatDoorZShR
import Derived.Test.YtnkbphecabnnaaaGreatDoorZGO
import Derived.Test.YtnkbphecabnnaaaGreatDoorZGI
import Derived.Deep.DeepCutAuto
import Derived.Deep.CutBlock
namespace Go.Proofs.YtnkbphecabnnaaaGreatDoor
open Go.RowKit
set_option linter.unusedSimpArgs false
set_option linter.unusedVariables false
set_option maxRecDepth 100000

end Go.Proofs.YtnkbphecabnnaaaGreatDoor
