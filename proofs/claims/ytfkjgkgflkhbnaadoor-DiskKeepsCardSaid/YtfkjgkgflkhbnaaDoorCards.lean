/-
  DERIVED. GIVEN WITH THE SEED: THE CARDS: each row of YtfkjgkgflkhbnaaDoorRows.lean that lists a variable, with what it lists TIED to the program's text (the seventh form; the later family's looks); each row that meets fmt, with fmt's text TOLD by the authors' own Lean function (tested against real Go, not proved from fmt's source: count such statements apart). THE CARD IS WHAT COUNTS. Prove the row's statement (the work); the ties are given (YtfkjgkgflkhbnaaDoorTie.lean); close each card by the builder's one call (the guide's Derived/Test/ToyasCard.lean, 'card_holds'). Laid BY PROGRAM, IN A SANDBOX (cutbox-door.mjs). By AI agents, Wed Nov 11 2026. No macro, syntax, notation, axiom, sorry.
-/
import Derived.Test.YtfkjgkgflkhbnaaDoorRows
import GoSem.ClaimSeven
namespace Go.Proofs.YtfkjgkgflkhbnaaDoor
namespace Rows

/-- THE TIED CARD OF 'exchequerlaw06.DiskKeeps'. -/
def diskKeepsCard : Claim7 := { stood := { row := diskKeepsRow, standIns := [], harness := (true, "ae2677b573656e561e5aafe24c49d936ea96c5ffd950d583b372e4a5aabb5aa5"), looks := false }, kinds := [], alts := [], laidByText := true, laidKinds := [.data, .pinned], laidTests := true, laidLooks := .later }
def DiskKeepsCardSaid : Prop := Claim7.holds Tryd.pinned (.plain (OpenSpec.ofChange diskKeepsSpec)) diskKeepsCard

/-- THE TIED CARD OF 'exchequerlaw06.DiskRooms'. -/
def diskRoomsCard : Claim7 := { stood := { row := diskRoomsRow, standIns := [], harness := (true, "ae2677b573656e561e5aafe24c49d936ea96c5ffd950d583b372e4a5aabb5aa5"), looks := false }, kinds := [], alts := [], laidByText := true, laidKinds := [.data, .pinned], laidTests := true, laidLooks := .later }
def DiskRoomsCardSaid : Prop := Claim7.holds Tryd.pinned (.plain (OpenSpec.ofChange diskRoomsSpec)) diskRoomsCard

/-- THE TIED CARD OF 'exchequerlaw06.DiskFuses'. -/
def diskFusesCard : Claim7 := { stood := { row := diskFusesRow, standIns := [], harness := (true, "ae2677b573656e561e5aafe24c49d936ea96c5ffd950d583b372e4a5aabb5aa5"), looks := false }, kinds := [], alts := [], laidByText := true, laidKinds := [.data, .pinned], laidTests := true, laidLooks := .later }
def DiskFusesCardSaid : Prop := Claim7.holds Tryd.pinned (.plain (OpenSpec.ofChange diskFusesSpec)) diskFusesCard

/-- THE TIED CARD OF 'exchequerlaw06.DiskPlays'. -/
def diskPlaysCard : Claim7 := { stood := { row := diskPlaysRow, standIns := [], harness := (true, "ae2677b573656e561e5aafe24c49d936ea96c5ffd950d583b372e4a5aabb5aa5"), looks := false }, kinds := [], alts := [], laidByText := true, laidKinds := [.data, .pinned], laidTests := true, laidLooks := .later }
def DiskPlaysCardSaid : Prop := Claim7.holds Tryd.pinned (.plain (OpenSpec.ofChange diskPlaysSpec)) diskPlaysCard

/-- THE TIED CARD OF 'exchequerlaw06.DiskNone'. -/
def diskNoneCard : Claim7 := { stood := { row := diskNoneRow, standIns := [], harness := (true, "ae2677b573656e561e5aafe24c49d936ea96c5ffd950d583b372e4a5aabb5aa5"), looks := false }, kinds := [], alts := [], laidByText := true, laidKinds := [.data, .pinned], laidTests := true, laidLooks := .later }
def DiskNoneCardSaid : Prop := Claim7.holds Tryd.pinned (.plain (OpenSpec.ofChange diskNoneSpec)) diskNoneCard

/-- THE SECOND FORM's CARD OF 'exchequerlaw06.DiskKeeps'. -/
def diskKeepsUptoCard : Claim7 := { stood := { row := diskKeepsUptoRow, standIns := [], harness := (true, "ae2677b573656e561e5aafe24c49d936ea96c5ffd950d583b372e4a5aabb5aa5"), looks := false }, kinds := [], alts := [], laidByText := true, laidKinds := [.data, .pinned], laidTests := true, laidLooks := .later }
def DiskKeepsUptoCardSaid : Prop := Claim7.holds Tryd.pinned (.plain (OpenSpec.upto diskKeepsSpec)) diskKeepsUptoCard

/-- THE SECOND FORM's CARD OF 'exchequerlaw06.DiskRooms'. -/
def diskRoomsUptoCard : Claim7 := { stood := { row := diskRoomsUptoRow, standIns := [], harness := (true, "ae2677b573656e561e5aafe24c49d936ea96c5ffd950d583b372e4a5aabb5aa5"), looks := false }, kinds := [], alts := [], laidByText := true, laidKinds := [.data, .pinned], laidTests := true, laidLooks := .later }
def DiskRoomsUptoCardSaid : Prop := Claim7.holds Tryd.pinned (.plain (OpenSpec.upto diskRoomsSpec)) diskRoomsUptoCard

/-- THE SECOND FORM's CARD OF 'exchequerlaw06.DiskFuses'. -/
def diskFusesUptoCard : Claim7 := { stood := { row := diskFusesUptoRow, standIns := [], harness := (true, "ae2677b573656e561e5aafe24c49d936ea96c5ffd950d583b372e4a5aabb5aa5"), looks := false }, kinds := [], alts := [], laidByText := true, laidKinds := [.data, .pinned], laidTests := true, laidLooks := .later }
def DiskFusesUptoCardSaid : Prop := Claim7.holds Tryd.pinned (.plain (OpenSpec.upto diskFusesSpec)) diskFusesUptoCard

/-- THE SECOND FORM's CARD OF 'exchequerlaw06.DiskPlays'. -/
def diskPlaysUptoCard : Claim7 := { stood := { row := diskPlaysUptoRow, standIns := [], harness := (true, "ae2677b573656e561e5aafe24c49d936ea96c5ffd950d583b372e4a5aabb5aa5"), looks := false }, kinds := [], alts := [], laidByText := true, laidKinds := [.data, .pinned], laidTests := true, laidLooks := .later }
def DiskPlaysUptoCardSaid : Prop := Claim7.holds Tryd.pinned (.plain (OpenSpec.upto diskPlaysSpec)) diskPlaysUptoCard

/-- THE SECOND FORM's CARD OF 'exchequerlaw06.DiskNone'. -/
def diskNoneUptoCard : Claim7 := { stood := { row := diskNoneUptoRow, standIns := [], harness := (true, "ae2677b573656e561e5aafe24c49d936ea96c5ffd950d583b372e4a5aabb5aa5"), looks := false }, kinds := [], alts := [], laidByText := true, laidKinds := [.data, .pinned], laidTests := true, laidLooks := .later }
def DiskNoneUptoCardSaid : Prop := Claim7.holds Tryd.pinned (.plain (OpenSpec.upto diskNoneSpec)) diskNoneUptoCard
end Rows
end Go.Proofs.YtfkjgkgflkhbnaaDoor
