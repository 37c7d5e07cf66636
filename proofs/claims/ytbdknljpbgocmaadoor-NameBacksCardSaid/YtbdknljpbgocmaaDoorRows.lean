/-
  NARROWER THAN 'FOR EVERY INPUT', by the rows' own cells (each row's printed sentence says how): NameRights: laid · NameCounts: laid · NamePlains: laid · NameEyes: laid · NameJoins: laid · NameBacks: laid.
  DERIVED. THE GIVEN ROWS OF THIS SEAT. 6 by the template 'for every input the law returns true; each argument reads behind the call as it read before'; 0 by the template 'total and deterministic' (their statements: YtbdknljpbgocmaaDoorTotals.lean).
  GIVEN WITH THE SEED: the statements are not yours to turn. If you find one false, say at which input.
  Laid BY PROGRAM, IN A SANDBOX (cutbox-rows.mjs): the forced cells as the released guide's own fill.sh prints them over the translation c9f4bca03dc43486… (all of the seat's roots in one cut). By AI agents, Wed Nov 11 2026. No macro, syntax, notation, axiom, sorry.
-/
import Derived.Test.YtbdknljpbgocmaaDoorChecked
import GoSem.PinnedTables
import GoSem.Claim
import GoSem.ClaimJoined
import GoSem.ClaimMapViews
import Derived.JoinedTies
import Derived.KernelRfl
namespace Go.Proofs.YtbdknljpbgocmaaDoor
/- THE CELL 'sum', in the pinned program and in every row, IS THE sha256 OF THE DUMP (.gsa) THAT YtbdknljpbgocmaaDoorProg.lean LOADS. Nothing in Lean hashes anything: it is a label: what it is worth is what the hold of that sum in a sandbox is worth. -/
noncomputable def Tryd.pinned : Pinned := { name := "ytbdknljpbgocmaadoor", sum := "c9f4bca03dc434866316a4b12041cf919f104f0f9d39cce4d8ce90af70f7d450", checked := Tryd.checked }
namespace Rows
def none {H : Type} : Left H := { results := [], args := [] }

/- WHAT THE LISTED PACKAGE-LEVEL VARIABLES READ AS WHEN THE CALL BEGINS. Each datum BY PROGRAM (the guide's laid-datum.mjs) off the statement by which the dump's own 'gosem.cut.vars' lays the variable. In a bare row this is a premise. The card (YtbdknljpbgocmaaDoorCards.lean) ties it to the program's text. -/
def laid_unicode_utf8_acceptRanges {H : Type} : DataW H := .agg [.agg [.lit (.int .u8 128), .lit (.int .u8 191)], .agg [.lit (.int .u8 160), .lit (.int .u8 191)], .agg [.lit (.int .u8 128), .lit (.int .u8 159)], .agg [.lit (.int .u8 144), .lit (.int .u8 191)], .agg [.lit (.int .u8 128), .lit (.int .u8 143)], .agg [.lit (.int .u8 0), .lit (.int .u8 0)], .agg [.lit (.int .u8 0), .lit (.int .u8 0)], .agg [.lit (.int .u8 0), .lit (.int .u8 0)], .agg [.lit (.int .u8 0), .lit (.int .u8 0)], .agg [.lit (.int .u8 0), .lit (.int .u8 0)], .agg [.lit (.int .u8 0), .lit (.int .u8 0)], .agg [.lit (.int .u8 0), .lit (.int .u8 0)], .agg [.lit (.int .u8 0), .lit (.int .u8 0)], .agg [.lit (.int .u8 0), .lit (.int .u8 0)], .agg [.lit (.int .u8 0), .lit (.int .u8 0)], .agg [.lit (.int .u8 0), .lit (.int .u8 0)]]
/-- One of Go's own tables, pinned by name: the form's constant. -/
def laid_unicode_utf8_first : DataW Unit := Go.Pinned.utf8First

/-- 'exchequerlaw04.NameRights': WHATEVER THE INPUT: true; the input reads as it did. -/
def nameRightsSpec : ChangeSpec := { name := "nameRights", fn := fun _ => fun
  | [d] => { results := [.lit (.bool true)], args := [d] }
  | _ => none }
def nameRightsRow : OpenClaim := { program := "ytbdknljpbgocmaadoor", sum := "c9f4bca03dc434866316a4b12041cf919f104f0f9d39cce4d8ce90af70f7d450", func := "exchequer/exchequerlaw04.NameRights", spec := "nameRights", named := ["unicode/utf8.first", "unicode/utf8.acceptRanges"], apart := false, laid := [("unicode/utf8.acceptRanges", laid_unicode_utf8_acceptRanges), ("unicode/utf8.first", laid_unicode_utf8_first)] }
def NameRightsSaid : Prop := nameRightsRow.holds Tryd.pinned (OpenSpec.ofChange nameRightsSpec)

/-- ITS FALSE NEIGHBOUR: 'it returns false'. Refute it at one input. -/
def nameRightsWrong : ChangeSpec := { name := "nameRights", fn := fun _ => fun
  | [d] => { results := [.lit (.bool false)], args := [d] }
  | _ => none }
def NameRightsWrongFalsely : Prop := nameRightsRow.holds Tryd.pinned (OpenSpec.ofChange nameRightsWrong)

/-- 'exchequerlaw04.NameCounts': WHATEVER THE INPUT: true; the input reads as it did. -/
def nameCountsSpec : ChangeSpec := { name := "nameCounts", fn := fun _ => fun
  | [d] => { results := [.lit (.bool true)], args := [d] }
  | _ => none }
def nameCountsRow : OpenClaim := { program := "ytbdknljpbgocmaadoor", sum := "c9f4bca03dc434866316a4b12041cf919f104f0f9d39cce4d8ce90af70f7d450", func := "exchequer/exchequerlaw04.NameCounts", spec := "nameCounts", named := ["unicode/utf8.first", "unicode/utf8.acceptRanges"], apart := false, laid := [("unicode/utf8.acceptRanges", laid_unicode_utf8_acceptRanges), ("unicode/utf8.first", laid_unicode_utf8_first)] }
def NameCountsSaid : Prop := nameCountsRow.holds Tryd.pinned (OpenSpec.ofChange nameCountsSpec)

/-- ITS FALSE NEIGHBOUR: 'it returns false'. Refute it at one input. -/
def nameCountsWrong : ChangeSpec := { name := "nameCounts", fn := fun _ => fun
  | [d] => { results := [.lit (.bool false)], args := [d] }
  | _ => none }
def NameCountsWrongFalsely : Prop := nameCountsRow.holds Tryd.pinned (OpenSpec.ofChange nameCountsWrong)

/-- 'exchequerlaw04.NamePlains': WHATEVER THE INPUT: true; the input reads as it did. -/
def namePlainsSpec : ChangeSpec := { name := "namePlains", fn := fun _ => fun
  | [d] => { results := [.lit (.bool true)], args := [d] }
  | _ => none }
def namePlainsRow : OpenClaim := { program := "ytbdknljpbgocmaadoor", sum := "c9f4bca03dc434866316a4b12041cf919f104f0f9d39cce4d8ce90af70f7d450", func := "exchequer/exchequerlaw04.NamePlains", spec := "namePlains", named := ["unicode/utf8.first", "unicode/utf8.acceptRanges"], apart := false, laid := [("unicode/utf8.acceptRanges", laid_unicode_utf8_acceptRanges), ("unicode/utf8.first", laid_unicode_utf8_first)] }
def NamePlainsSaid : Prop := namePlainsRow.holds Tryd.pinned (OpenSpec.ofChange namePlainsSpec)

/-- ITS FALSE NEIGHBOUR: 'it returns false'. Refute it at one input. -/
def namePlainsWrong : ChangeSpec := { name := "namePlains", fn := fun _ => fun
  | [d] => { results := [.lit (.bool false)], args := [d] }
  | _ => none }
def NamePlainsWrongFalsely : Prop := namePlainsRow.holds Tryd.pinned (OpenSpec.ofChange namePlainsWrong)

/-- 'exchequerlaw04.NameEyes': WHATEVER THE INPUT: true; the input reads as it did. -/
def nameEyesSpec : ChangeSpec := { name := "nameEyes", fn := fun _ => fun
  | [d1, d2] => { results := [.lit (.bool true)], args := [d1, d2] }
  | _ => none }
def nameEyesRow : OpenClaim := { program := "ytbdknljpbgocmaadoor", sum := "c9f4bca03dc434866316a4b12041cf919f104f0f9d39cce4d8ce90af70f7d450", func := "exchequer/exchequerlaw04.NameEyes", spec := "nameEyes", named := ["unicode/utf8.first", "unicode/utf8.acceptRanges"], apart := false, laid := [("unicode/utf8.acceptRanges", laid_unicode_utf8_acceptRanges), ("unicode/utf8.first", laid_unicode_utf8_first)] }
def NameEyesSaid : Prop := nameEyesRow.holds Tryd.pinned (OpenSpec.ofChange nameEyesSpec)

/-- ITS FALSE NEIGHBOUR: 'it returns false'. Refute it at one input. -/
def nameEyesWrong : ChangeSpec := { name := "nameEyes", fn := fun _ => fun
  | [d1, d2] => { results := [.lit (.bool false)], args := [d1, d2] }
  | _ => none }
def NameEyesWrongFalsely : Prop := nameEyesRow.holds Tryd.pinned (OpenSpec.ofChange nameEyesWrong)

/-- 'exchequerlaw04.NameJoins': WHATEVER THE INPUT: true; the input reads as it did. -/
def nameJoinsSpec : ChangeSpec := { name := "nameJoins", fn := fun _ => fun
  | [d1, d2] => { results := [.lit (.bool true)], args := [d1, d2] }
  | _ => none }
def nameJoinsRow : OpenClaim := { program := "ytbdknljpbgocmaadoor", sum := "c9f4bca03dc434866316a4b12041cf919f104f0f9d39cce4d8ce90af70f7d450", func := "exchequer/exchequerlaw04.NameJoins", spec := "nameJoins", named := ["unicode/utf8.first", "unicode/utf8.acceptRanges"], apart := false, laid := [("unicode/utf8.acceptRanges", laid_unicode_utf8_acceptRanges), ("unicode/utf8.first", laid_unicode_utf8_first)] }
def NameJoinsSaid : Prop := nameJoinsRow.holds Tryd.pinned (OpenSpec.ofChange nameJoinsSpec)

/-- ITS FALSE NEIGHBOUR: 'it returns false'. Refute it at one input. -/
def nameJoinsWrong : ChangeSpec := { name := "nameJoins", fn := fun _ => fun
  | [d1, d2] => { results := [.lit (.bool false)], args := [d1, d2] }
  | _ => none }
def NameJoinsWrongFalsely : Prop := nameJoinsRow.holds Tryd.pinned (OpenSpec.ofChange nameJoinsWrong)

/-- 'exchequerlaw04.NameBacks': WHATEVER THE INPUT: true; the input reads as it did. -/
def nameBacksSpec : ChangeSpec := { name := "nameBacks", fn := fun _ => fun
  | [d] => { results := [.lit (.bool true)], args := [d] }
  | _ => none }
def nameBacksRow : OpenClaim := { program := "ytbdknljpbgocmaadoor", sum := "c9f4bca03dc434866316a4b12041cf919f104f0f9d39cce4d8ce90af70f7d450", func := "exchequer/exchequerlaw04.NameBacks", spec := "nameBacks", named := ["unicode/utf8.first", "unicode/utf8.acceptRanges"], apart := false, laid := [("unicode/utf8.acceptRanges", laid_unicode_utf8_acceptRanges), ("unicode/utf8.first", laid_unicode_utf8_first)] }
def NameBacksSaid : Prop := nameBacksRow.holds Tryd.pinned (OpenSpec.ofChange nameBacksSpec)

/-- ITS FALSE NEIGHBOUR: 'it returns false'. Refute it at one input. -/
def nameBacksWrong : ChangeSpec := { name := "nameBacks", fn := fun _ => fun
  | [d] => { results := [.lit (.bool false)], args := [d] }
  | _ => none }
def NameBacksWrongFalsely : Prop := nameBacksRow.holds Tryd.pinned (OpenSpec.ofChange nameBacksWrong)

/- THE SECOND FORM. 'bulk': how many values and letters a reading holds, each counted each time it is reached (what is shared counts as often as it is met; a slice's spare places count too). A statement '..UptoSaid' is the law's where the arguments, and the package variables that the reading takes, are together of bulk at most 1048576: NARROWER than '..Said'. Prove '..Said' where nothing that the law and all that it calls make is longer than what came in: it says more and counts as full. Else prove '..UptoSaid'. A law counts once. -/
mutual
def uptoBulk {H : Type} : DataW H → Nat
  | .lit (.string bytes) => bytes.length + 1
  | .lit _ => 1
  | .nil => 1
  | .ptr d => uptoBulk d + 1
  | .slice elems spare => uptoBulkAll elems + uptoBulkAll spare + 1
  | .agg parts => uptoBulkAll parts + 1
  | .iface _ d => uptoBulk d + 1
  | .map entries => uptoBulkEntries entries + 1
  | .held _ => 1
def uptoBulkAll {H : Type} : List (DataW H) → Nat
  | [] => 0
  | d :: r => uptoBulk d + uptoBulkAll r
def uptoBulkEntries {H : Type} : List (Lit × DataW H) → Nat
  | [] => 0
  | x :: r => uptoBulkEntry x + uptoBulkEntries r
def uptoBulkEntry {H : Type} : Lit × DataW H → Nat
  | (.string bytes, d) => bytes.length + uptoBulk d + 1
  | (_, d) => uptoBulk d + 1
 end
def uptoSmall : (H : Type) → List (DataW H) → Bool := fun _ ds => decide (uptoBulkAll ds ≤ 1048576)
def OpenSpec.upto (s : _root_.Go.ChangeSpec) : _root_.Go.OpenSpec := { _root_.Go.OpenSpec.ofChange s with cond := some uptoSmall }

/-- 'exchequerlaw04.NameRights', WHERE WHAT IT READS IS OF BULK AT MOST 1048576: true; the input reads as it did. -/
def nameRightsUptoRow : OpenClaim := { program := "ytbdknljpbgocmaadoor", sum := "c9f4bca03dc434866316a4b12041cf919f104f0f9d39cce4d8ce90af70f7d450", func := "exchequer/exchequerlaw04.NameRights", spec := "nameRights", named := ["unicode/utf8.first", "unicode/utf8.acceptRanges"], apart := false, laid := [("unicode/utf8.acceptRanges", laid_unicode_utf8_acceptRanges), ("unicode/utf8.first", laid_unicode_utf8_first)], narrowed := true }
def NameRightsUptoSaid : Prop := nameRightsUptoRow.holds Tryd.pinned (OpenSpec.upto nameRightsSpec)

/-- 'exchequerlaw04.NameCounts', WHERE WHAT IT READS IS OF BULK AT MOST 1048576: true; the input reads as it did. -/
def nameCountsUptoRow : OpenClaim := { program := "ytbdknljpbgocmaadoor", sum := "c9f4bca03dc434866316a4b12041cf919f104f0f9d39cce4d8ce90af70f7d450", func := "exchequer/exchequerlaw04.NameCounts", spec := "nameCounts", named := ["unicode/utf8.first", "unicode/utf8.acceptRanges"], apart := false, laid := [("unicode/utf8.acceptRanges", laid_unicode_utf8_acceptRanges), ("unicode/utf8.first", laid_unicode_utf8_first)], narrowed := true }
def NameCountsUptoSaid : Prop := nameCountsUptoRow.holds Tryd.pinned (OpenSpec.upto nameCountsSpec)

/-- 'exchequerlaw04.NamePlains', WHERE WHAT IT READS IS OF BULK AT MOST 1048576: true; the input reads as it did. -/
def namePlainsUptoRow : OpenClaim := { program := "ytbdknljpbgocmaadoor", sum := "c9f4bca03dc434866316a4b12041cf919f104f0f9d39cce4d8ce90af70f7d450", func := "exchequer/exchequerlaw04.NamePlains", spec := "namePlains", named := ["unicode/utf8.first", "unicode/utf8.acceptRanges"], apart := false, laid := [("unicode/utf8.acceptRanges", laid_unicode_utf8_acceptRanges), ("unicode/utf8.first", laid_unicode_utf8_first)], narrowed := true }
def NamePlainsUptoSaid : Prop := namePlainsUptoRow.holds Tryd.pinned (OpenSpec.upto namePlainsSpec)

/-- 'exchequerlaw04.NameEyes', WHERE WHAT IT READS IS OF BULK AT MOST 1048576: true; the input reads as it did. -/
def nameEyesUptoRow : OpenClaim := { program := "ytbdknljpbgocmaadoor", sum := "c9f4bca03dc434866316a4b12041cf919f104f0f9d39cce4d8ce90af70f7d450", func := "exchequer/exchequerlaw04.NameEyes", spec := "nameEyes", named := ["unicode/utf8.first", "unicode/utf8.acceptRanges"], apart := false, laid := [("unicode/utf8.acceptRanges", laid_unicode_utf8_acceptRanges), ("unicode/utf8.first", laid_unicode_utf8_first)], narrowed := true }
def NameEyesUptoSaid : Prop := nameEyesUptoRow.holds Tryd.pinned (OpenSpec.upto nameEyesSpec)

/-- 'exchequerlaw04.NameJoins', WHERE WHAT IT READS IS OF BULK AT MOST 1048576: true; the input reads as it did. -/
def nameJoinsUptoRow : OpenClaim := { program := "ytbdknljpbgocmaadoor", sum := "c9f4bca03dc434866316a4b12041cf919f104f0f9d39cce4d8ce90af70f7d450", func := "exchequer/exchequerlaw04.NameJoins", spec := "nameJoins", named := ["unicode/utf8.first", "unicode/utf8.acceptRanges"], apart := false, laid := [("unicode/utf8.acceptRanges", laid_unicode_utf8_acceptRanges), ("unicode/utf8.first", laid_unicode_utf8_first)], narrowed := true }
def NameJoinsUptoSaid : Prop := nameJoinsUptoRow.holds Tryd.pinned (OpenSpec.upto nameJoinsSpec)

/-- 'exchequerlaw04.NameBacks', WHERE WHAT IT READS IS OF BULK AT MOST 1048576: true; the input reads as it did. -/
def nameBacksUptoRow : OpenClaim := { program := "ytbdknljpbgocmaadoor", sum := "c9f4bca03dc434866316a4b12041cf919f104f0f9d39cce4d8ce90af70f7d450", func := "exchequer/exchequerlaw04.NameBacks", spec := "nameBacks", named := ["unicode/utf8.first", "unicode/utf8.acceptRanges"], apart := false, laid := [("unicode/utf8.acceptRanges", laid_unicode_utf8_acceptRanges), ("unicode/utf8.first", laid_unicode_utf8_first)], narrowed := true }
def NameBacksUptoSaid : Prop := nameBacksUptoRow.holds Tryd.pinned (OpenSpec.upto nameBacksSpec)

end Rows
end Go.Proofs.YtbdknljpbgocmaaDoor
