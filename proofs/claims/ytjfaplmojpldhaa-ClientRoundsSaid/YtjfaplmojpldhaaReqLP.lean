/-
  What Decode of a request answers, as plain Lean. No condition.
-/
import Derived.Test.YtjfaplmojpldhaaReqPlain2
import Derived.Test.YtjfaplmojpldhaaReqE
namespace Go.Proofs.Ytjfaplmojpldhaa
open Go.RowKit
set_option linter.unusedSimpArgs false
set_option linter.unusedVariables false
set_option maxRecDepth 100000

def decC (s : List UInt8) : Option Cm :=
  if 8192 < s.length then none
  else if isK (readC ⟨s, false⟩).1.kind = true ∧ rend (readC ⟨s, false⟩).2 = 0 ∧ okIds (readC ⟨s, false⟩).1.client (readC ⟨s, false⟩).1.seq = true then some (cleanC (readC ⟨s, false⟩).1) else none
theorem decC_of {s : List UInt8} {y : Cm} {sf : RS} (h : readC ⟨s, false⟩ = (y, sf)) (hl : ¬ 8192 < s.length) (hk : isK y.kind = true) (hz : rend sf = 0) (hi : okIds y.client y.seq = true) : decC s = some (cleanC y) := by
  unfold decC
  rw [h]
  simp only [hl, hk, hz, hi, and_self, if_true, if_false]
theorem decC_no {s : List UInt8} {y : Cm} {sf : RS} (h : readC ⟨s, false⟩ = (y, sf)) (hn : 8192 < s.length ∨ isK y.kind = false ∨ rend sf ≠ 0 ∨ okIds y.client y.seq = false) : decC s = none := by
  unfold decC
  rw [h]
  rcases hn with hn | hn | hn | hn <;> simp [hn]
end Go.Proofs.Ytjfaplmojpldhaa
