/-
  No cell of these rows narrows 'for every input' (looked for: loops, veiled, ifaces, maps, wideKeys, modest, calm, conditions, laid).
  DERIVED. THE GIVEN ROWS OF THIS SEAT. 5 by the template 'for every input the law returns true; each argument reads behind the call as it read before'; 0 by the template 'total and deterministic' (their statements: YtihklmomipidaaaTotals.lean).
  GIVEN WITH THE SEED: the statements are not yours to turn. If you find one false, say at which input.
  Laid BY PROGRAM, IN A SANDBOX (cutbox-rows.mjs): the forced cells as the released guide's own fill.sh prints them over the translation edc1c1d21f25d611… (all of the seat's roots in one cut). By AI agents, Wed Nov 11 2026. No macro, syntax, notation, axiom, sorry.
-/
import Derived.Test.YtihklmomipidaaaChecked
import GoSem.Claim
import GoSem.ClaimJoined
import GoSem.ClaimMapViews
import Derived.JoinedTies
import Derived.KernelRfl
namespace Go.Proofs.Ytihklmomipidaaa
/- THE CELL 'sum', in the pinned program and in every row, IS THE sha256 OF THE DUMP (.gsa) THAT YtihklmomipidaaaProg.lean LOADS. Nothing in Lean hashes anything: it is a label: what it is worth is what the hold of that sum in a sandbox is worth. -/
noncomputable def Try.pinned : Pinned := { name := "ytihklmomipidaaa", sum := "edc1c1d21f25d6114f150282f12c9df5e061b09b08be24170369e1c1582509fa", checked := Try.checked }
namespace Rows
def none {H : Type} : Left H := { results := [], args := [] }

/-- 'exchequerlaw10.MsgFlats': WHATEVER THE INPUT: true; the input reads as it did. -/
def msgFlatsSpec : ChangeSpec := { name := "msgFlats", fn := fun _ => fun
  | [d] => { results := [.lit (.bool true)], args := [d] }
  | _ => none }
def msgFlatsRow : OpenClaim := { program := "ytihklmomipidaaa", sum := "edc1c1d21f25d6114f150282f12c9df5e061b09b08be24170369e1c1582509fa", func := "exchequer/exchequerlaw10.MsgFlats", spec := "msgFlats", unfollowed := true, recurses := true, apart := false }
def MsgFlatsSaid : Prop := msgFlatsRow.holds Try.pinned (OpenSpec.ofChange msgFlatsSpec)

/-- ITS FALSE NEIGHBOUR: 'it returns false'. Refute it at one input. -/
def msgFlatsWrong : ChangeSpec := { name := "msgFlats", fn := fun _ => fun
  | [d] => { results := [.lit (.bool false)], args := [d] }
  | _ => none }
def MsgFlatsWrongFalsely : Prop := msgFlatsRow.holds Try.pinned (OpenSpec.ofChange msgFlatsWrong)

/-- 'exchequerlaw10.MsgBytes': WHATEVER THE INPUT: true; the input reads as it did. -/
def msgBytesSpec : ChangeSpec := { name := "msgBytes", fn := fun _ => fun
  | [d] => { results := [.lit (.bool true)], args := [d] }
  | _ => none }
def msgBytesRow : OpenClaim := { program := "ytihklmomipidaaa", sum := "edc1c1d21f25d6114f150282f12c9df5e061b09b08be24170369e1c1582509fa", func := "exchequer/exchequerlaw10.MsgBytes", spec := "msgBytes", unfollowed := true, recurses := true, apart := false }
def MsgBytesSaid : Prop := msgBytesRow.holds Try.pinned (OpenSpec.ofChange msgBytesSpec)

/-- ITS FALSE NEIGHBOUR: 'it returns false'. Refute it at one input. -/
def msgBytesWrong : ChangeSpec := { name := "msgBytes", fn := fun _ => fun
  | [d] => { results := [.lit (.bool false)], args := [d] }
  | _ => none }
def MsgBytesWrongFalsely : Prop := msgBytesRow.holds Try.pinned (OpenSpec.ofChange msgBytesWrong)

/-- 'exchequerlaw10.MsgReads': WHATEVER THE INPUT: true; the input reads as it did. -/
def msgReadsSpec : ChangeSpec := { name := "msgReads", fn := fun _ => fun
  | [d] => { results := [.lit (.bool true)], args := [d] }
  | _ => none }
def msgReadsRow : OpenClaim := { program := "ytihklmomipidaaa", sum := "edc1c1d21f25d6114f150282f12c9df5e061b09b08be24170369e1c1582509fa", func := "exchequer/exchequerlaw10.MsgReads", spec := "msgReads", unfollowed := true, recurses := true, apart := false }
def MsgReadsSaid : Prop := msgReadsRow.holds Try.pinned (OpenSpec.ofChange msgReadsSpec)

/-- ITS FALSE NEIGHBOUR: 'it returns false'. Refute it at one input. -/
def msgReadsWrong : ChangeSpec := { name := "msgReads", fn := fun _ => fun
  | [d] => { results := [.lit (.bool false)], args := [d] }
  | _ => none }
def MsgReadsWrongFalsely : Prop := msgReadsRow.holds Try.pinned (OpenSpec.ofChange msgReadsWrong)

/-- 'exchequerlaw10.MsgCuts': WHATEVER THE INPUT: true; the input reads as it did. -/
def msgCutsSpec : ChangeSpec := { name := "msgCuts", fn := fun _ => fun
  | [d1, d2, d3] => { results := [.lit (.bool true)], args := [d1, d2, d3] }
  | _ => none }
def msgCutsRow : OpenClaim := { program := "ytihklmomipidaaa", sum := "edc1c1d21f25d6114f150282f12c9df5e061b09b08be24170369e1c1582509fa", func := "exchequer/exchequerlaw10.MsgCuts", spec := "msgCuts", unfollowed := true, recurses := true, apart := false }
def MsgCutsSaid : Prop := msgCutsRow.holds Try.pinned (OpenSpec.ofChange msgCutsSpec)

/-- ITS FALSE NEIGHBOUR: 'it returns false'. Refute it at one input. -/
def msgCutsWrong : ChangeSpec := { name := "msgCuts", fn := fun _ => fun
  | [d1, d2, d3] => { results := [.lit (.bool false)], args := [d1, d2, d3] }
  | _ => none }
def MsgCutsWrongFalsely : Prop := msgCutsRow.holds Try.pinned (OpenSpec.ofChange msgCutsWrong)

/-- 'exchequerlaw10.MsgKinds': WHATEVER THE INPUT: true; the input reads as it did. -/
def msgKindsSpec : ChangeSpec := { name := "msgKinds", fn := fun _ => fun
  | [d] => { results := [.lit (.bool true)], args := [d] }
  | _ => none }
def msgKindsRow : OpenClaim := { program := "ytihklmomipidaaa", sum := "edc1c1d21f25d6114f150282f12c9df5e061b09b08be24170369e1c1582509fa", func := "exchequer/exchequerlaw10.MsgKinds", spec := "msgKinds", unfollowed := true, recurses := true, apart := false }
def MsgKindsSaid : Prop := msgKindsRow.holds Try.pinned (OpenSpec.ofChange msgKindsSpec)

/-- ITS FALSE NEIGHBOUR: 'it returns false'. Refute it at one input. -/
def msgKindsWrong : ChangeSpec := { name := "msgKinds", fn := fun _ => fun
  | [d] => { results := [.lit (.bool false)], args := [d] }
  | _ => none }
def MsgKindsWrongFalsely : Prop := msgKindsRow.holds Try.pinned (OpenSpec.ofChange msgKindsWrong)

/- THE SECOND FORM. 'bulk': how many values and letters a reading holds, each counted each time it is reached (what is shared counts as often as it is met; a slice's spare places count too). A statement '..UptoSaid' is the law's where the arguments, and the package variables that the reading takes, are together of bulk at most 1048576: NARROWER than '..Said'. Prove '..Said' where nothing that the law and all that it calls make is longer than what came in: it says more and counts as full. Else prove '..UptoSaid'. A law counts once. -/
mutual
def uptoBulk {H : Type} : DataW H → Nat
  | .lit (.string bytes) => bytes.length + 1
  | .lit _ => 1
  | .nil => 1
  | .ptr d => uptoBulk d + 1
  | .slice elems spare => uptoBulkAll elems + uptoBulkAll spare + 1
  | .agg parts => uptoBulkAll parts + 1
  | .iface _ d => uptoBulk d + 1
  | .map entries => uptoBulkEntries entries + 1
  | .held _ => 1
def uptoBulkAll {H : Type} : List (DataW H) → Nat
  | [] => 0
  | d :: r => uptoBulk d + uptoBulkAll r
def uptoBulkEntries {H : Type} : List (Lit × DataW H) → Nat
  | [] => 0
  | x :: r => uptoBulkEntry x + uptoBulkEntries r
def uptoBulkEntry {H : Type} : Lit × DataW H → Nat
  | (.string bytes, d) => bytes.length + uptoBulk d + 1
  | (_, d) => uptoBulk d + 1
 end
def uptoSmall : (H : Type) → List (DataW H) → Bool := fun _ ds => decide (uptoBulkAll ds ≤ 1048576)
def OpenSpec.upto (s : _root_.Go.ChangeSpec) : _root_.Go.OpenSpec := { _root_.Go.OpenSpec.ofChange s with cond := some uptoSmall }

/-- 'exchequerlaw10.MsgFlats', WHERE WHAT IT READS IS OF BULK AT MOST 1048576: true; the input reads as it did. -/
def msgFlatsUptoRow : OpenClaim := { program := "ytihklmomipidaaa", sum := "edc1c1d21f25d6114f150282f12c9df5e061b09b08be24170369e1c1582509fa", func := "exchequer/exchequerlaw10.MsgFlats", spec := "msgFlats", unfollowed := true, recurses := true, apart := false, narrowed := true }
def MsgFlatsUptoSaid : Prop := msgFlatsUptoRow.holds Try.pinned (OpenSpec.upto msgFlatsSpec)

/-- 'exchequerlaw10.MsgBytes', WHERE WHAT IT READS IS OF BULK AT MOST 1048576: true; the input reads as it did. -/
def msgBytesUptoRow : OpenClaim := { program := "ytihklmomipidaaa", sum := "edc1c1d21f25d6114f150282f12c9df5e061b09b08be24170369e1c1582509fa", func := "exchequer/exchequerlaw10.MsgBytes", spec := "msgBytes", unfollowed := true, recurses := true, apart := false, narrowed := true }
def MsgBytesUptoSaid : Prop := msgBytesUptoRow.holds Try.pinned (OpenSpec.upto msgBytesSpec)

/-- 'exchequerlaw10.MsgReads', WHERE WHAT IT READS IS OF BULK AT MOST 1048576: true; the input reads as it did. -/
def msgReadsUptoRow : OpenClaim := { program := "ytihklmomipidaaa", sum := "edc1c1d21f25d6114f150282f12c9df5e061b09b08be24170369e1c1582509fa", func := "exchequer/exchequerlaw10.MsgReads", spec := "msgReads", unfollowed := true, recurses := true, apart := false, narrowed := true }
def MsgReadsUptoSaid : Prop := msgReadsUptoRow.holds Try.pinned (OpenSpec.upto msgReadsSpec)

/-- 'exchequerlaw10.MsgCuts', WHERE WHAT IT READS IS OF BULK AT MOST 1048576: true; the input reads as it did. -/
def msgCutsUptoRow : OpenClaim := { program := "ytihklmomipidaaa", sum := "edc1c1d21f25d6114f150282f12c9df5e061b09b08be24170369e1c1582509fa", func := "exchequer/exchequerlaw10.MsgCuts", spec := "msgCuts", unfollowed := true, recurses := true, apart := false, narrowed := true }
def MsgCutsUptoSaid : Prop := msgCutsUptoRow.holds Try.pinned (OpenSpec.upto msgCutsSpec)

/-- 'exchequerlaw10.MsgKinds', WHERE WHAT IT READS IS OF BULK AT MOST 1048576: true; the input reads as it did. -/
def msgKindsUptoRow : OpenClaim := { program := "ytihklmomipidaaa", sum := "edc1c1d21f25d6114f150282f12c9df5e061b09b08be24170369e1c1582509fa", func := "exchequer/exchequerlaw10.MsgKinds", spec := "msgKinds", unfollowed := true, recurses := true, apart := false, narrowed := true }
def MsgKindsUptoSaid : Prop := msgKindsUptoRow.holds Try.pinned (OpenSpec.upto msgKindsSpec)

end Rows
end Go.Proofs.Ytihklmomipidaaa
