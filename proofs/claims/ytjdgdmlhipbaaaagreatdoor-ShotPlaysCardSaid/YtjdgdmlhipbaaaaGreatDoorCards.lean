/-
  DERIVED. GIVEN WITH THE SEED: THE CARDS: each row of YtjdgdmlhipbaaaaGreatDoorRows.lean that lists a variable, with what it lists TIED to the program's text (the seventh form; the later family's looks); each row that meets fmt, with fmt's text TOLD by the authors' own Lean function (tested against real Go, not proved from fmt's source: count such statements apart). THE CARD IS WHAT COUNTS. Prove the row's statement (the work); the ties are given (YtjdgdmlhipbaaaaGreatDoorTie.lean); close each card by the builder's one call (the guide's Derived/Test/ToyasCard.lean, 'card_holds'). Laid BY PROGRAM, IN A SANDBOX (cutbox-door.mjs). By AI agents, Wed Nov 11 2026. No macro, syntax, notation, axiom, sorry.
-/
import Derived.Test.YtjdgdmlhipbaaaaGreatDoorRows
import GoSem.ClaimSeven
namespace Go.Proofs.YtjdgdmlhipbaaaaGreatDoor
namespace Rows

/-- THE TIED CARD OF 'exchequerlaw08.ShotPlays'. -/
def shotPlaysCard : Claim7 := { stood := { row := shotPlaysRow, standIns := [], harness := (true, "efe5890d42899c2dd5f33fade2b8a84d391bd82507608eeed39161d4992f2908"), looks := false }, kinds := [], alts := [], laidByText := true, laidKinds := [.data, .data, .data, .data, .pinned], laidTests := true, laidLooks := .later }
def ShotPlaysCardSaid : Prop := Claim7.holds Tryz.pinned (.plain (OpenSpec.ofChange shotPlaysSpec)) shotPlaysCard

/-- THE SECOND FORM's CARD OF 'exchequerlaw08.ShotPlays'. -/
def shotPlaysUptoCard : Claim7 := { stood := { row := shotPlaysUptoRow, standIns := [], harness := (true, "efe5890d42899c2dd5f33fade2b8a84d391bd82507608eeed39161d4992f2908"), looks := false }, kinds := [], alts := [], laidByText := true, laidKinds := [.data, .data, .data, .data, .pinned], laidTests := true, laidLooks := .later }
def ShotPlaysUptoCardSaid : Prop := Claim7.holds Tryz.pinned (.plain (OpenSpec.upto shotPlaysSpec)) shotPlaysUptoCard
end Rows
end Go.Proofs.YtjdgdmlhipbaaaaGreatDoor
