/-
  No cell of these rows narrows 'for every input' (looked for: loops, veiled, ifaces, maps, wideKeys, modest, calm, conditions, laid).
  DERIVED. THE GIVEN ROWS OF THIS SEAT. 4 by the template 'for every input the law returns true; each argument reads behind the call as it read before'; 0 by the template 'total and deterministic' (their statements: YtdiacfbflbenoaaTotals.lean).
  GIVEN WITH THE SEED: the statements are not yours to turn. If you find one false, say at which input.
  Laid BY PROGRAM, IN A SANDBOX (cutbox-rows.mjs): the forced cells as the released guide's own fill.sh prints them over the translation a018f321c8724026… (all of the seat's roots in one cut). By AI agents, Wed Nov 11 2026. No macro, syntax, notation, axiom, sorry.
-/
import Derived.Test.YtdiacfbflbenoaaChecked
import GoSem.Claim
import GoSem.ClaimJoined
import GoSem.ClaimMapViews
import Derived.JoinedTies
import Derived.KernelRfl
namespace Go.Proofs.Ytdiacfbflbenoaa
/- THE CELL 'sum', in the pinned program and in every row, IS THE sha256 OF THE DUMP (.gsa) THAT YtdiacfbflbenoaaProg.lean LOADS. Nothing in Lean hashes anything: it is a label: what it is worth is what the hold of that sum in a sandbox is worth. -/
noncomputable def Try.pinned : Pinned := { name := "ytdiacfbflbenoaa", sum := "a018f321c872402641e35d6941900186adc632b4a1879bc0f06d7e16868decfd", checked := Try.checked }
namespace Rows
def none {H : Type} : Left H := { results := [], args := [] }

/-- 'exchequerlaw19.AuditPlays': WHATEVER THE INPUT: true; the input reads as it did. -/
def auditPlaysSpec : ChangeSpec := { name := "auditPlays", fn := fun _ => fun
  | [d] => { results := [.lit (.bool true)], args := [d] }
  | _ => none }
def auditPlaysRow : OpenClaim := { program := "ytdiacfbflbenoaa", sum := "a018f321c872402641e35d6941900186adc632b4a1879bc0f06d7e16868decfd", func := "exchequer/exchequerlaw19.AuditPlays", spec := "auditPlays", apart := false }
def AuditPlaysSaid : Prop := auditPlaysRow.holds Try.pinned (OpenSpec.ofChange auditPlaysSpec)

/-- ITS FALSE NEIGHBOUR: 'it returns false'. Refute it at one input. -/
def auditPlaysWrong : ChangeSpec := { name := "auditPlays", fn := fun _ => fun
  | [d] => { results := [.lit (.bool false)], args := [d] }
  | _ => none }
def AuditPlaysWrongFalsely : Prop := auditPlaysRow.holds Try.pinned (OpenSpec.ofChange auditPlaysWrong)

/-- 'exchequerlaw19.AuditCuts': WHATEVER THE INPUT: true; the input reads as it did. -/
def auditCutsSpec : ChangeSpec := { name := "auditCuts", fn := fun _ => fun
  | [d1, d2, d3] => { results := [.lit (.bool true)], args := [d1, d2, d3] }
  | _ => none }
def auditCutsRow : OpenClaim := { program := "ytdiacfbflbenoaa", sum := "a018f321c872402641e35d6941900186adc632b4a1879bc0f06d7e16868decfd", func := "exchequer/exchequerlaw19.AuditCuts", spec := "auditCuts", apart := false }
def AuditCutsSaid : Prop := auditCutsRow.holds Try.pinned (OpenSpec.ofChange auditCutsSpec)

/-- ITS FALSE NEIGHBOUR: 'it returns false'. Refute it at one input. -/
def auditCutsWrong : ChangeSpec := { name := "auditCuts", fn := fun _ => fun
  | [d1, d2, d3] => { results := [.lit (.bool false)], args := [d1, d2, d3] }
  | _ => none }
def AuditCutsWrongFalsely : Prop := auditCutsRow.holds Try.pinned (OpenSpec.ofChange auditCutsWrong)

/-- 'exchequerlaw19.AuditNone': WHATEVER THE INPUT: true; the input reads as it did. -/
def auditNoneSpec : ChangeSpec := { name := "auditNone", fn := fun _ => fun
  | [d1, d2] => { results := [.lit (.bool true)], args := [d1, d2] }
  | _ => none }
def auditNoneRow : OpenClaim := { program := "ytdiacfbflbenoaa", sum := "a018f321c872402641e35d6941900186adc632b4a1879bc0f06d7e16868decfd", func := "exchequer/exchequerlaw19.AuditNone", spec := "auditNone", apart := false }
def AuditNoneSaid : Prop := auditNoneRow.holds Try.pinned (OpenSpec.ofChange auditNoneSpec)

/-- ITS FALSE NEIGHBOUR: 'it returns false'. Refute it at one input. -/
def auditNoneWrong : ChangeSpec := { name := "auditNone", fn := fun _ => fun
  | [d1, d2] => { results := [.lit (.bool false)], args := [d1, d2] }
  | _ => none }
def AuditNoneWrongFalsely : Prop := auditNoneRow.holds Try.pinned (OpenSpec.ofChange auditNoneWrong)

/-- 'exchequerlaw19.AuditEdits': WHATEVER THE INPUT: true; the input reads as it did. -/
def auditEditsSpec : ChangeSpec := { name := "auditEdits", fn := fun _ => fun
  | [d1, d2, d3] => { results := [.lit (.bool true)], args := [d1, d2, d3] }
  | _ => none }
def auditEditsRow : OpenClaim := { program := "ytdiacfbflbenoaa", sum := "a018f321c872402641e35d6941900186adc632b4a1879bc0f06d7e16868decfd", func := "exchequer/exchequerlaw19.AuditEdits", spec := "auditEdits", apart := false }
def AuditEditsSaid : Prop := auditEditsRow.holds Try.pinned (OpenSpec.ofChange auditEditsSpec)

/-- ITS FALSE NEIGHBOUR: 'it returns false'. Refute it at one input. -/
def auditEditsWrong : ChangeSpec := { name := "auditEdits", fn := fun _ => fun
  | [d1, d2, d3] => { results := [.lit (.bool false)], args := [d1, d2, d3] }
  | _ => none }
def AuditEditsWrongFalsely : Prop := auditEditsRow.holds Try.pinned (OpenSpec.ofChange auditEditsWrong)

/- THE SECOND FORM. 'bulk': how many values and letters a reading holds, each counted each time it is reached (what is shared counts as often as it is met; a slice's spare places count too). A statement '..UptoSaid' is the law's where the arguments, and the package variables that the reading takes, are together of bulk at most 1048576: NARROWER than '..Said'. Prove '..Said' where nothing that the law and all that it calls make is longer than what came in: it says more and counts as full. Else prove '..UptoSaid'. A law counts once. -/
mutual
def uptoBulk {H : Type} : DataW H → Nat
  | .lit (.string bytes) => bytes.length + 1
  | .lit _ => 1
  | .nil => 1
  | .ptr d => uptoBulk d + 1
  | .slice elems spare => uptoBulkAll elems + uptoBulkAll spare + 1
  | .agg parts => uptoBulkAll parts + 1
  | .iface _ d => uptoBulk d + 1
  | .map entries => uptoBulkEntries entries + 1
  | .held _ => 1
def uptoBulkAll {H : Type} : List (DataW H) → Nat
  | [] => 0
  | d :: r => uptoBulk d + uptoBulkAll r
def uptoBulkEntries {H : Type} : List (Lit × DataW H) → Nat
  | [] => 0
  | x :: r => uptoBulkEntry x + uptoBulkEntries r
def uptoBulkEntry {H : Type} : Lit × DataW H → Nat
  | (.string bytes, d) => bytes.length + uptoBulk d + 1
  | (_, d) => uptoBulk d + 1
 end
def uptoSmall : (H : Type) → List (DataW H) → Bool := fun _ ds => decide (uptoBulkAll ds ≤ 1048576)
def OpenSpec.upto (s : _root_.Go.ChangeSpec) : _root_.Go.OpenSpec := { _root_.Go.OpenSpec.ofChange s with cond := some uptoSmall }

/-- 'exchequerlaw19.AuditPlays', WHERE WHAT IT READS IS OF BULK AT MOST 1048576: true; the input reads as it did. -/
def auditPlaysUptoRow : OpenClaim := { program := "ytdiacfbflbenoaa", sum := "a018f321c872402641e35d6941900186adc632b4a1879bc0f06d7e16868decfd", func := "exchequer/exchequerlaw19.AuditPlays", spec := "auditPlays", apart := false, narrowed := true }
def AuditPlaysUptoSaid : Prop := auditPlaysUptoRow.holds Try.pinned (OpenSpec.upto auditPlaysSpec)

/-- 'exchequerlaw19.AuditCuts', WHERE WHAT IT READS IS OF BULK AT MOST 1048576: true; the input reads as it did. -/
def auditCutsUptoRow : OpenClaim := { program := "ytdiacfbflbenoaa", sum := "a018f321c872402641e35d6941900186adc632b4a1879bc0f06d7e16868decfd", func := "exchequer/exchequerlaw19.AuditCuts", spec := "auditCuts", apart := false, narrowed := true }
def AuditCutsUptoSaid : Prop := auditCutsUptoRow.holds Try.pinned (OpenSpec.upto auditCutsSpec)

/-- 'exchequerlaw19.AuditNone', WHERE WHAT IT READS IS OF BULK AT MOST 1048576: true; the input reads as it did. -/
def auditNoneUptoRow : OpenClaim := { program := "ytdiacfbflbenoaa", sum := "a018f321c872402641e35d6941900186adc632b4a1879bc0f06d7e16868decfd", func := "exchequer/exchequerlaw19.AuditNone", spec := "auditNone", apart := false, narrowed := true }
def AuditNoneUptoSaid : Prop := auditNoneUptoRow.holds Try.pinned (OpenSpec.upto auditNoneSpec)

/-- 'exchequerlaw19.AuditEdits', WHERE WHAT IT READS IS OF BULK AT MOST 1048576: true; the input reads as it did. -/
def auditEditsUptoRow : OpenClaim := { program := "ytdiacfbflbenoaa", sum := "a018f321c872402641e35d6941900186adc632b4a1879bc0f06d7e16868decfd", func := "exchequer/exchequerlaw19.AuditEdits", spec := "auditEdits", apart := false, narrowed := true }
def AuditEditsUptoSaid : Prop := auditEditsUptoRow.holds Try.pinned (OpenSpec.upto auditEditsSpec)

end Rows
end Go.Proofs.Ytdiacfbflbenoaa
