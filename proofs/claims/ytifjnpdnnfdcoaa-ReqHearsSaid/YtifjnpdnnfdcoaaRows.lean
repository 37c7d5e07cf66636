/-
  No cell of these rows narrows 'for every input' (looked for: loops, veiled, ifaces, maps, wideKeys, modest, calm, conditions, laid).
  DERIVED. THE GIVEN ROWS OF THIS SEAT. 7 by the template 'for every input the law returns true; each argument reads behind the call as it read before'; 0 by the template 'total and deterministic' (their statements: YtifjnpdnnfdcoaaTotals.lean).
  GIVEN WITH THE SEED: the statements are not yours to turn. If you find one false, say at which input.
  Laid BY PROGRAM, IN A SANDBOX (cutbox-rows.mjs): the forced cells as the released guide's own fill.sh prints them over the translation 1213db1c2dd0e623… (all of the seat's roots in one cut). By AI agents, Wed Nov 11 2026. No macro, syntax, notation, axiom, sorry.
-/
import Derived.Test.YtifjnpdnnfdcoaaChecked
import GoSem.Claim
import GoSem.ClaimJoined
import GoSem.ClaimMapViews
import Derived.JoinedTies
import Derived.KernelRfl
namespace Go.Proofs.Ytifjnpdnnfdcoaa
/- THE CELL 'sum', in the pinned program and in every row, IS THE sha256 OF THE DUMP (.gsa) THAT YtifjnpdnnfdcoaaProg.lean LOADS. Nothing in Lean hashes anything: it is a label: what it is worth is what the hold of that sum in a sandbox is worth. -/
noncomputable def Try.pinned : Pinned := { name := "ytifjnpdnnfdcoaa", sum := "1213db1c2dd0e6236b00db8a3fe6f998f4c45b51c72f83f189649ff157246047", checked := Try.checked }
namespace Rows
def none {H : Type} : Left H := { results := [], args := [] }

/-- 'exchequerlaw20.ReqBytes': WHATEVER THE INPUT: true; the input reads as it did. -/
def reqBytesSpec : ChangeSpec := { name := "reqBytes", fn := fun _ => fun
  | [d] => { results := [.lit (.bool true)], args := [d] }
  | _ => none }
def reqBytesRow : OpenClaim := { program := "ytifjnpdnnfdcoaa", sum := "1213db1c2dd0e6236b00db8a3fe6f998f4c45b51c72f83f189649ff157246047", func := "exchequer/exchequerlaw20.ReqBytes", spec := "reqBytes", unfollowed := true, recurses := true, apart := false }
def ReqBytesSaid : Prop := reqBytesRow.holds Try.pinned (OpenSpec.ofChange reqBytesSpec)

/-- ITS FALSE NEIGHBOUR: 'it returns false'. Refute it at one input. -/
def reqBytesWrong : ChangeSpec := { name := "reqBytes", fn := fun _ => fun
  | [d] => { results := [.lit (.bool false)], args := [d] }
  | _ => none }
def ReqBytesWrongFalsely : Prop := reqBytesRow.holds Try.pinned (OpenSpec.ofChange reqBytesWrong)

/-- 'exchequerlaw20.ReqReads': WHATEVER THE INPUT: true; the input reads as it did. -/
def reqReadsSpec : ChangeSpec := { name := "reqReads", fn := fun _ => fun
  | [d] => { results := [.lit (.bool true)], args := [d] }
  | _ => none }
def reqReadsRow : OpenClaim := { program := "ytifjnpdnnfdcoaa", sum := "1213db1c2dd0e6236b00db8a3fe6f998f4c45b51c72f83f189649ff157246047", func := "exchequer/exchequerlaw20.ReqReads", spec := "reqReads", unfollowed := true, recurses := true, apart := false }
def ReqReadsSaid : Prop := reqReadsRow.holds Try.pinned (OpenSpec.ofChange reqReadsSpec)

/-- ITS FALSE NEIGHBOUR: 'it returns false'. Refute it at one input. -/
def reqReadsWrong : ChangeSpec := { name := "reqReads", fn := fun _ => fun
  | [d] => { results := [.lit (.bool false)], args := [d] }
  | _ => none }
def ReqReadsWrongFalsely : Prop := reqReadsRow.holds Try.pinned (OpenSpec.ofChange reqReadsWrong)

/-- 'exchequerlaw20.ReqCuts': WHATEVER THE INPUT: true; the input reads as it did. -/
def reqCutsSpec : ChangeSpec := { name := "reqCuts", fn := fun _ => fun
  | [d1, d2, d3] => { results := [.lit (.bool true)], args := [d1, d2, d3] }
  | _ => none }
def reqCutsRow : OpenClaim := { program := "ytifjnpdnnfdcoaa", sum := "1213db1c2dd0e6236b00db8a3fe6f998f4c45b51c72f83f189649ff157246047", func := "exchequer/exchequerlaw20.ReqCuts", spec := "reqCuts", unfollowed := true, recurses := true, apart := false }
def ReqCutsSaid : Prop := reqCutsRow.holds Try.pinned (OpenSpec.ofChange reqCutsSpec)

/-- ITS FALSE NEIGHBOUR: 'it returns false'. Refute it at one input. -/
def reqCutsWrong : ChangeSpec := { name := "reqCuts", fn := fun _ => fun
  | [d1, d2, d3] => { results := [.lit (.bool false)], args := [d1, d2, d3] }
  | _ => none }
def ReqCutsWrongFalsely : Prop := reqCutsRow.holds Try.pinned (OpenSpec.ofChange reqCutsWrong)

/-- 'exchequerlaw20.ReqFlats': WHATEVER THE INPUT: true; the input reads as it did. -/
def reqFlatsSpec : ChangeSpec := { name := "reqFlats", fn := fun _ => fun
  | [d] => { results := [.lit (.bool true)], args := [d] }
  | _ => none }
def reqFlatsRow : OpenClaim := { program := "ytifjnpdnnfdcoaa", sum := "1213db1c2dd0e6236b00db8a3fe6f998f4c45b51c72f83f189649ff157246047", func := "exchequer/exchequerlaw20.ReqFlats", spec := "reqFlats", unfollowed := true, recurses := true, apart := false }
def ReqFlatsSaid : Prop := reqFlatsRow.holds Try.pinned (OpenSpec.ofChange reqFlatsSpec)

/-- ITS FALSE NEIGHBOUR: 'it returns false'. Refute it at one input. -/
def reqFlatsWrong : ChangeSpec := { name := "reqFlats", fn := fun _ => fun
  | [d] => { results := [.lit (.bool false)], args := [d] }
  | _ => none }
def ReqFlatsWrongFalsely : Prop := reqFlatsRow.holds Try.pinned (OpenSpec.ofChange reqFlatsWrong)

/-- 'exchequerlaw20.ReqKinds': WHATEVER THE INPUT: true; the input reads as it did. -/
def reqKindsSpec : ChangeSpec := { name := "reqKinds", fn := fun _ => fun
  | [d] => { results := [.lit (.bool true)], args := [d] }
  | _ => none }
def reqKindsRow : OpenClaim := { program := "ytifjnpdnnfdcoaa", sum := "1213db1c2dd0e6236b00db8a3fe6f998f4c45b51c72f83f189649ff157246047", func := "exchequer/exchequerlaw20.ReqKinds", spec := "reqKinds", unfollowed := true, recurses := true, apart := false }
def ReqKindsSaid : Prop := reqKindsRow.holds Try.pinned (OpenSpec.ofChange reqKindsSpec)

/-- ITS FALSE NEIGHBOUR: 'it returns false'. Refute it at one input. -/
def reqKindsWrong : ChangeSpec := { name := "reqKinds", fn := fun _ => fun
  | [d] => { results := [.lit (.bool false)], args := [d] }
  | _ => none }
def ReqKindsWrongFalsely : Prop := reqKindsRow.holds Try.pinned (OpenSpec.ofChange reqKindsWrong)

/-- 'exchequerlaw20.ReqAnswers': WHATEVER THE INPUT: true; the input reads as it did. -/
def reqAnswersSpec : ChangeSpec := { name := "reqAnswers", fn := fun _ => fun
  | [d] => { results := [.lit (.bool true)], args := [d] }
  | _ => none }
def reqAnswersRow : OpenClaim := { program := "ytifjnpdnnfdcoaa", sum := "1213db1c2dd0e6236b00db8a3fe6f998f4c45b51c72f83f189649ff157246047", func := "exchequer/exchequerlaw20.ReqAnswers", spec := "reqAnswers", unfollowed := true, recurses := true, apart := false }
def ReqAnswersSaid : Prop := reqAnswersRow.holds Try.pinned (OpenSpec.ofChange reqAnswersSpec)

/-- ITS FALSE NEIGHBOUR: 'it returns false'. Refute it at one input. -/
def reqAnswersWrong : ChangeSpec := { name := "reqAnswers", fn := fun _ => fun
  | [d] => { results := [.lit (.bool false)], args := [d] }
  | _ => none }
def ReqAnswersWrongFalsely : Prop := reqAnswersRow.holds Try.pinned (OpenSpec.ofChange reqAnswersWrong)

/-- 'exchequerlaw20.ReqHears': WHATEVER THE INPUT: true; the input reads as it did. -/
def reqHearsSpec : ChangeSpec := { name := "reqHears", fn := fun _ => fun
  | [d] => { results := [.lit (.bool true)], args := [d] }
  | _ => none }
def reqHearsRow : OpenClaim := { program := "ytifjnpdnnfdcoaa", sum := "1213db1c2dd0e6236b00db8a3fe6f998f4c45b51c72f83f189649ff157246047", func := "exchequer/exchequerlaw20.ReqHears", spec := "reqHears", unfollowed := true, recurses := true, apart := false }
def ReqHearsSaid : Prop := reqHearsRow.holds Try.pinned (OpenSpec.ofChange reqHearsSpec)

/-- ITS FALSE NEIGHBOUR: 'it returns false'. Refute it at one input. -/
def reqHearsWrong : ChangeSpec := { name := "reqHears", fn := fun _ => fun
  | [d] => { results := [.lit (.bool false)], args := [d] }
  | _ => none }
def ReqHearsWrongFalsely : Prop := reqHearsRow.holds Try.pinned (OpenSpec.ofChange reqHearsWrong)

/- THE SECOND FORM. 'bulk': how many values and letters a reading holds, each counted each time it is reached (what is shared counts as often as it is met; a slice's spare places count too). A statement '..UptoSaid' is the law's where the arguments, and the package variables that the reading takes, are together of bulk at most 1048576: NARROWER than '..Said'. Prove '..Said' where nothing that the law and all that it calls make is longer than what came in: it says more and counts as full. Else prove '..UptoSaid'. A law counts once. -/
mutual
def uptoBulk {H : Type} : DataW H → Nat
  | .lit (.string bytes) => bytes.length + 1
  | .lit _ => 1
  | .nil => 1
  | .ptr d => uptoBulk d + 1
  | .slice elems spare => uptoBulkAll elems + uptoBulkAll spare + 1
  | .agg parts => uptoBulkAll parts + 1
  | .iface _ d => uptoBulk d + 1
  | .map entries => uptoBulkEntries entries + 1
  | .held _ => 1
def uptoBulkAll {H : Type} : List (DataW H) → Nat
  | [] => 0
  | d :: r => uptoBulk d + uptoBulkAll r
def uptoBulkEntries {H : Type} : List (Lit × DataW H) → Nat
  | [] => 0
  | x :: r => uptoBulkEntry x + uptoBulkEntries r
def uptoBulkEntry {H : Type} : Lit × DataW H → Nat
  | (.string bytes, d) => bytes.length + uptoBulk d + 1
  | (_, d) => uptoBulk d + 1
 end
def uptoSmall : (H : Type) → List (DataW H) → Bool := fun _ ds => decide (uptoBulkAll ds ≤ 1048576)
def OpenSpec.upto (s : _root_.Go.ChangeSpec) : _root_.Go.OpenSpec := { _root_.Go.OpenSpec.ofChange s with cond := some uptoSmall }

/-- 'exchequerlaw20.ReqBytes', WHERE WHAT IT READS IS OF BULK AT MOST 1048576: true; the input reads as it did. -/
def reqBytesUptoRow : OpenClaim := { program := "ytifjnpdnnfdcoaa", sum := "1213db1c2dd0e6236b00db8a3fe6f998f4c45b51c72f83f189649ff157246047", func := "exchequer/exchequerlaw20.ReqBytes", spec := "reqBytes", unfollowed := true, recurses := true, apart := false, narrowed := true }
def ReqBytesUptoSaid : Prop := reqBytesUptoRow.holds Try.pinned (OpenSpec.upto reqBytesSpec)

/-- 'exchequerlaw20.ReqReads', WHERE WHAT IT READS IS OF BULK AT MOST 1048576: true; the input reads as it did. -/
def reqReadsUptoRow : OpenClaim := { program := "ytifjnpdnnfdcoaa", sum := "1213db1c2dd0e6236b00db8a3fe6f998f4c45b51c72f83f189649ff157246047", func := "exchequer/exchequerlaw20.ReqReads", spec := "reqReads", unfollowed := true, recurses := true, apart := false, narrowed := true }
def ReqReadsUptoSaid : Prop := reqReadsUptoRow.holds Try.pinned (OpenSpec.upto reqReadsSpec)

/-- 'exchequerlaw20.ReqCuts', WHERE WHAT IT READS IS OF BULK AT MOST 1048576: true; the input reads as it did. -/
def reqCutsUptoRow : OpenClaim := { program := "ytifjnpdnnfdcoaa", sum := "1213db1c2dd0e6236b00db8a3fe6f998f4c45b51c72f83f189649ff157246047", func := "exchequer/exchequerlaw20.ReqCuts", spec := "reqCuts", unfollowed := true, recurses := true, apart := false, narrowed := true }
def ReqCutsUptoSaid : Prop := reqCutsUptoRow.holds Try.pinned (OpenSpec.upto reqCutsSpec)

/-- 'exchequerlaw20.ReqFlats', WHERE WHAT IT READS IS OF BULK AT MOST 1048576: true; the input reads as it did. -/
def reqFlatsUptoRow : OpenClaim := { program := "ytifjnpdnnfdcoaa", sum := "1213db1c2dd0e6236b00db8a3fe6f998f4c45b51c72f83f189649ff157246047", func := "exchequer/exchequerlaw20.ReqFlats", spec := "reqFlats", unfollowed := true, recurses := true, apart := false, narrowed := true }
def ReqFlatsUptoSaid : Prop := reqFlatsUptoRow.holds Try.pinned (OpenSpec.upto reqFlatsSpec)

/-- 'exchequerlaw20.ReqKinds', WHERE WHAT IT READS IS OF BULK AT MOST 1048576: true; the input reads as it did. -/
def reqKindsUptoRow : OpenClaim := { program := "ytifjnpdnnfdcoaa", sum := "1213db1c2dd0e6236b00db8a3fe6f998f4c45b51c72f83f189649ff157246047", func := "exchequer/exchequerlaw20.ReqKinds", spec := "reqKinds", unfollowed := true, recurses := true, apart := false, narrowed := true }
def ReqKindsUptoSaid : Prop := reqKindsUptoRow.holds Try.pinned (OpenSpec.upto reqKindsSpec)

/-- 'exchequerlaw20.ReqAnswers', WHERE WHAT IT READS IS OF BULK AT MOST 1048576: true; the input reads as it did. -/
def reqAnswersUptoRow : OpenClaim := { program := "ytifjnpdnnfdcoaa", sum := "1213db1c2dd0e6236b00db8a3fe6f998f4c45b51c72f83f189649ff157246047", func := "exchequer/exchequerlaw20.ReqAnswers", spec := "reqAnswers", unfollowed := true, recurses := true, apart := false, narrowed := true }
def ReqAnswersUptoSaid : Prop := reqAnswersUptoRow.holds Try.pinned (OpenSpec.upto reqAnswersSpec)

/-- 'exchequerlaw20.ReqHears', WHERE WHAT IT READS IS OF BULK AT MOST 1048576: true; the input reads as it did. -/
def reqHearsUptoRow : OpenClaim := { program := "ytifjnpdnnfdcoaa", sum := "1213db1c2dd0e6236b00db8a3fe6f998f4c45b51c72f83f189649ff157246047", func := "exchequer/exchequerlaw20.ReqHears", spec := "reqHears", unfollowed := true, recurses := true, apart := false, narrowed := true }
def ReqHearsUptoSaid : Prop := reqHearsUptoRow.holds Try.pinned (OpenSpec.upto reqHearsSpec)

end Rows
end Go.Proofs.Ytifjnpdnnfdcoaa
