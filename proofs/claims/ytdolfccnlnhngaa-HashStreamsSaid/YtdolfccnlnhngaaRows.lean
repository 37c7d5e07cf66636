/-
  No cell of these rows narrows 'for every input' (looked for: loops, veiled, ifaces, maps, wideKeys, modest, calm, conditions, laid).
  DERIVED. THE GIVEN ROWS OF THIS SEAT. 6 by the template 'for every input the law returns true; each argument reads behind the call as it read before'; 0 by the template 'total and deterministic' (their statements: YtdolfccnlnhngaaTotals.lean).
  GIVEN WITH THE SEED: the statements are not yours to turn. If you find one false, say at which input.
  Laid BY PROGRAM, IN A SANDBOX (cutbox-rows.mjs): the forced cells as the released guide's own fill.sh prints them over the translation e473fc318bd1e70d… (all of the seat's roots in one cut). By AI agents, Wed Nov 11 2026. No macro, syntax, notation, axiom, sorry.
-/
import Derived.Test.YtdolfccnlnhngaaChecked
import GoSem.Claim
import GoSem.ClaimJoined
import GoSem.ClaimMapViews
import Derived.JoinedTies
import Derived.KernelRfl
namespace Go.Proofs.Ytdolfccnlnhngaa
/- THE CELL 'sum', in the pinned program and in every row, IS THE sha256 OF THE DUMP (.gsa) THAT YtdolfccnlnhngaaProg.lean LOADS. Nothing in Lean hashes anything: it is a label: what it is worth is what the hold of that sum in a sandbox is worth. -/
noncomputable def Try.pinned : Pinned := { name := "ytdolfccnlnhngaa", sum := "e473fc318bd1e70dca439f76e3844aeeb2cccae8f2d46b7c6bab26295c396e86", checked := Try.checked }
namespace Rows
def none {H : Type} : Left H := { results := [], args := [] }

/-- 'exchequerlaw02.HashSums': WHATEVER THE INPUT: true; the input reads as it did. -/
def hashSumsSpec : ChangeSpec := { name := "hashSums", fn := fun _ => fun
  | [d] => { results := [.lit (.bool true)], args := [d] }
  | _ => none }
def hashSumsRow : OpenClaim := { program := "ytdolfccnlnhngaa", sum := "e473fc318bd1e70dca439f76e3844aeeb2cccae8f2d46b7c6bab26295c396e86", func := "exchequer/exchequerlaw02.HashSums", spec := "hashSums", apart := false }
def HashSumsSaid : Prop := hashSumsRow.holds Try.pinned (OpenSpec.ofChange hashSumsSpec)

/-- ITS FALSE NEIGHBOUR: 'it returns false'. Refute it at one input. -/
def hashSumsWrong : ChangeSpec := { name := "hashSums", fn := fun _ => fun
  | [d] => { results := [.lit (.bool false)], args := [d] }
  | _ => none }
def HashSumsWrongFalsely : Prop := hashSumsRow.holds Try.pinned (OpenSpec.ofChange hashSumsWrong)

/-- 'exchequerlaw02.HashStreams': WHATEVER THE INPUT: true; the input reads as it did. -/
def hashStreamsSpec : ChangeSpec := { name := "hashStreams", fn := fun _ => fun
  | [d] => { results := [.lit (.bool true)], args := [d] }
  | _ => none }
def hashStreamsRow : OpenClaim := { program := "ytdolfccnlnhngaa", sum := "e473fc318bd1e70dca439f76e3844aeeb2cccae8f2d46b7c6bab26295c396e86", func := "exchequer/exchequerlaw02.HashStreams", spec := "hashStreams", apart := false }
def HashStreamsSaid : Prop := hashStreamsRow.holds Try.pinned (OpenSpec.ofChange hashStreamsSpec)

/-- ITS FALSE NEIGHBOUR: 'it returns false'. Refute it at one input. -/
def hashStreamsWrong : ChangeSpec := { name := "hashStreams", fn := fun _ => fun
  | [d] => { results := [.lit (.bool false)], args := [d] }
  | _ => none }
def HashStreamsWrongFalsely : Prop := hashStreamsRow.holds Try.pinned (OpenSpec.ofChange hashStreamsWrong)

/-- 'exchequerlaw02.HashParts': WHATEVER THE INPUT: true; the input reads as it did. -/
def hashPartsSpec : ChangeSpec := { name := "hashParts", fn := fun _ => fun
  | [d] => { results := [.lit (.bool true)], args := [d] }
  | _ => none }
def hashPartsRow : OpenClaim := { program := "ytdolfccnlnhngaa", sum := "e473fc318bd1e70dca439f76e3844aeeb2cccae8f2d46b7c6bab26295c396e86", func := "exchequer/exchequerlaw02.HashParts", spec := "hashParts", apart := false }
def HashPartsSaid : Prop := hashPartsRow.holds Try.pinned (OpenSpec.ofChange hashPartsSpec)

/-- ITS FALSE NEIGHBOUR: 'it returns false'. Refute it at one input. -/
def hashPartsWrong : ChangeSpec := { name := "hashParts", fn := fun _ => fun
  | [d] => { results := [.lit (.bool false)], args := [d] }
  | _ => none }
def HashPartsWrongFalsely : Prop := hashPartsRow.holds Try.pinned (OpenSpec.ofChange hashPartsWrong)

/-- 'exchequerlaw02.HashMacs': WHATEVER THE INPUT: true; the input reads as it did. -/
def hashMacsSpec : ChangeSpec := { name := "hashMacs", fn := fun _ => fun
  | [d1, d2] => { results := [.lit (.bool true)], args := [d1, d2] }
  | _ => none }
def hashMacsRow : OpenClaim := { program := "ytdolfccnlnhngaa", sum := "e473fc318bd1e70dca439f76e3844aeeb2cccae8f2d46b7c6bab26295c396e86", func := "exchequer/exchequerlaw02.HashMacs", spec := "hashMacs", unfollowed := true, recurses := true, apart := false }
def HashMacsSaid : Prop := hashMacsRow.holds Try.pinned (OpenSpec.ofChange hashMacsSpec)

/-- ITS FALSE NEIGHBOUR: 'it returns false'. Refute it at one input. -/
def hashMacsWrong : ChangeSpec := { name := "hashMacs", fn := fun _ => fun
  | [d1, d2] => { results := [.lit (.bool false)], args := [d1, d2] }
  | _ => none }
def HashMacsWrongFalsely : Prop := hashMacsRow.holds Try.pinned (OpenSpec.ofChange hashMacsWrong)

/-- 'exchequerlaw02.HashKeys': WHATEVER THE INPUT: true; the input reads as it did. -/
def hashKeysSpec : ChangeSpec := { name := "hashKeys", fn := fun _ => fun
  | [d1, d2, d3] => { results := [.lit (.bool true)], args := [d1, d2, d3] }
  | _ => none }
def hashKeysRow : OpenClaim := { program := "ytdolfccnlnhngaa", sum := "e473fc318bd1e70dca439f76e3844aeeb2cccae8f2d46b7c6bab26295c396e86", func := "exchequer/exchequerlaw02.HashKeys", spec := "hashKeys", unfollowed := true, recurses := true, apart := false }
def HashKeysSaid : Prop := hashKeysRow.holds Try.pinned (OpenSpec.ofChange hashKeysSpec)

/-- ITS FALSE NEIGHBOUR: 'it returns false'. Refute it at one input. -/
def hashKeysWrong : ChangeSpec := { name := "hashKeys", fn := fun _ => fun
  | [d1, d2, d3] => { results := [.lit (.bool false)], args := [d1, d2, d3] }
  | _ => none }
def HashKeysWrongFalsely : Prop := hashKeysRow.holds Try.pinned (OpenSpec.ofChange hashKeysWrong)

/-- 'exchequerlaw02.HashDigits': WHATEVER THE INPUT: true; the input reads as it did. -/
def hashDigitsSpec : ChangeSpec := { name := "hashDigits", fn := fun _ => fun
  | [d1, d2] => { results := [.lit (.bool true)], args := [d1, d2] }
  | _ => none }
def hashDigitsRow : OpenClaim := { program := "ytdolfccnlnhngaa", sum := "e473fc318bd1e70dca439f76e3844aeeb2cccae8f2d46b7c6bab26295c396e86", func := "exchequer/exchequerlaw02.HashDigits", spec := "hashDigits", apart := false }
def HashDigitsSaid : Prop := hashDigitsRow.holds Try.pinned (OpenSpec.ofChange hashDigitsSpec)

/-- ITS FALSE NEIGHBOUR: 'it returns false'. Refute it at one input. -/
def hashDigitsWrong : ChangeSpec := { name := "hashDigits", fn := fun _ => fun
  | [d1, d2] => { results := [.lit (.bool false)], args := [d1, d2] }
  | _ => none }
def HashDigitsWrongFalsely : Prop := hashDigitsRow.holds Try.pinned (OpenSpec.ofChange hashDigitsWrong)

/- THE SECOND FORM. 'bulk': how many values and letters a reading holds, each counted each time it is reached (what is shared counts as often as it is met; a slice's spare places count too). A statement '..UptoSaid' is the law's where the arguments, and the package variables that the reading takes, are together of bulk at most 1048576: NARROWER than '..Said'. Prove '..Said' where nothing that the law and all that it calls make is longer than what came in: it says more and counts as full. Else prove '..UptoSaid'. A law counts once. -/
mutual
def uptoBulk {H : Type} : DataW H → Nat
  | .lit (.string bytes) => bytes.length + 1
  | .lit _ => 1
  | .nil => 1
  | .ptr d => uptoBulk d + 1
  | .slice elems spare => uptoBulkAll elems + uptoBulkAll spare + 1
  | .agg parts => uptoBulkAll parts + 1
  | .iface _ d => uptoBulk d + 1
  | .map entries => uptoBulkEntries entries + 1
  | .held _ => 1
def uptoBulkAll {H : Type} : List (DataW H) → Nat
  | [] => 0
  | d :: r => uptoBulk d + uptoBulkAll r
def uptoBulkEntries {H : Type} : List (Lit × DataW H) → Nat
  | [] => 0
  | x :: r => uptoBulkEntry x + uptoBulkEntries r
def uptoBulkEntry {H : Type} : Lit × DataW H → Nat
  | (.string bytes, d) => bytes.length + uptoBulk d + 1
  | (_, d) => uptoBulk d + 1
 end
def uptoSmall : (H : Type) → List (DataW H) → Bool := fun _ ds => decide (uptoBulkAll ds ≤ 1048576)
def OpenSpec.upto (s : _root_.Go.ChangeSpec) : _root_.Go.OpenSpec := { _root_.Go.OpenSpec.ofChange s with cond := some uptoSmall }

/-- 'exchequerlaw02.HashSums', WHERE WHAT IT READS IS OF BULK AT MOST 1048576: true; the input reads as it did. -/
def hashSumsUptoRow : OpenClaim := { program := "ytdolfccnlnhngaa", sum := "e473fc318bd1e70dca439f76e3844aeeb2cccae8f2d46b7c6bab26295c396e86", func := "exchequer/exchequerlaw02.HashSums", spec := "hashSums", apart := false, narrowed := true }
def HashSumsUptoSaid : Prop := hashSumsUptoRow.holds Try.pinned (OpenSpec.upto hashSumsSpec)

/-- 'exchequerlaw02.HashStreams', WHERE WHAT IT READS IS OF BULK AT MOST 1048576: true; the input reads as it did. -/
def hashStreamsUptoRow : OpenClaim := { program := "ytdolfccnlnhngaa", sum := "e473fc318bd1e70dca439f76e3844aeeb2cccae8f2d46b7c6bab26295c396e86", func := "exchequer/exchequerlaw02.HashStreams", spec := "hashStreams", apart := false, narrowed := true }
def HashStreamsUptoSaid : Prop := hashStreamsUptoRow.holds Try.pinned (OpenSpec.upto hashStreamsSpec)

/-- 'exchequerlaw02.HashParts', WHERE WHAT IT READS IS OF BULK AT MOST 1048576: true; the input reads as it did. -/
def hashPartsUptoRow : OpenClaim := { program := "ytdolfccnlnhngaa", sum := "e473fc318bd1e70dca439f76e3844aeeb2cccae8f2d46b7c6bab26295c396e86", func := "exchequer/exchequerlaw02.HashParts", spec := "hashParts", apart := false, narrowed := true }
def HashPartsUptoSaid : Prop := hashPartsUptoRow.holds Try.pinned (OpenSpec.upto hashPartsSpec)

/-- 'exchequerlaw02.HashMacs', WHERE WHAT IT READS IS OF BULK AT MOST 1048576: true; the input reads as it did. -/
def hashMacsUptoRow : OpenClaim := { program := "ytdolfccnlnhngaa", sum := "e473fc318bd1e70dca439f76e3844aeeb2cccae8f2d46b7c6bab26295c396e86", func := "exchequer/exchequerlaw02.HashMacs", spec := "hashMacs", unfollowed := true, recurses := true, apart := false, narrowed := true }
def HashMacsUptoSaid : Prop := hashMacsUptoRow.holds Try.pinned (OpenSpec.upto hashMacsSpec)

/-- 'exchequerlaw02.HashKeys', WHERE WHAT IT READS IS OF BULK AT MOST 1048576: true; the input reads as it did. -/
def hashKeysUptoRow : OpenClaim := { program := "ytdolfccnlnhngaa", sum := "e473fc318bd1e70dca439f76e3844aeeb2cccae8f2d46b7c6bab26295c396e86", func := "exchequer/exchequerlaw02.HashKeys", spec := "hashKeys", unfollowed := true, recurses := true, apart := false, narrowed := true }
def HashKeysUptoSaid : Prop := hashKeysUptoRow.holds Try.pinned (OpenSpec.upto hashKeysSpec)

/-- 'exchequerlaw02.HashDigits', WHERE WHAT IT READS IS OF BULK AT MOST 1048576: true; the input reads as it did. -/
def hashDigitsUptoRow : OpenClaim := { program := "ytdolfccnlnhngaa", sum := "e473fc318bd1e70dca439f76e3844aeeb2cccae8f2d46b7c6bab26295c396e86", func := "exchequer/exchequerlaw02.HashDigits", spec := "hashDigits", apart := false, narrowed := true }
def HashDigitsUptoSaid : Prop := hashDigitsUptoRow.holds Try.pinned (OpenSpec.upto hashDigitsSpec)

end Rows
end Go.Proofs.Ytdolfccnlnhngaa
