/-
  Requests as plain Lean: what Decode reads. No condition.
-/
import Derived.Test.YtjfaplmojpldhaaZGB
import Derived.Test.YtjfaplmojpldhaaZReqPlain
namespace Go.Proofs.Ytjfaplmojpldhaa
open Go.RowKit
set_option linter.unusedSimpArgs false
set_option linter.unusedVariables false

theorem uptoQ_most (st : RS) (m : Int) (hm : 0 ≤ m) : (upto st m).1 ≤ m := by
  unfold upto uptoFin
  repeat' split
  all_goals simp_all
  all_goals omega
end Go.Proofs.Ytjfaplmojpldhaa
