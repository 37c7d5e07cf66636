/-
  DERIVED. GIVEN WITH THE SEED: THE CARDS: each row of YtbdknljpbgocmaaDoorRows.lean that lists a variable, with what it lists TIED to the program's text (the seventh form; the later family's looks); each row that meets fmt, with fmt's text TOLD by the authors' own Lean function (tested against real Go, not proved from fmt's source: count such statements apart). THE CARD IS WHAT COUNTS. Prove the row's statement (the work); the ties are given (YtbdknljpbgocmaaDoorTie.lean); close each card by the builder's one call (the guide's Derived/Test/ToyasCard.lean, 'card_holds'). Laid BY PROGRAM, IN A SANDBOX (cutbox-door.mjs). By AI agents, Wed Nov 11 2026. No macro, syntax, notation, axiom, sorry.
-/
import Derived.Test.YtbdknljpbgocmaaDoorRows
import GoSem.ClaimSeven
namespace Go.Proofs.YtbdknljpbgocmaaDoor
namespace Rows

/-- THE TIED CARD OF 'exchequerlaw04.NameRights'. -/
def nameRightsCard : Claim7 := { stood := { row := nameRightsRow, standIns := [], harness := (true, "2d5232b8d41e2cd858fe4e03a0ef7e090584420246772010d1057aa84fabf327"), looks := false }, kinds := [], alts := [], laidByText := true, laidKinds := [.data, .pinned], laidTests := true, laidLooks := .later }
def NameRightsCardSaid : Prop := Claim7.holds Tryd.pinned (.plain (OpenSpec.ofChange nameRightsSpec)) nameRightsCard

/-- THE TIED CARD OF 'exchequerlaw04.NameCounts'. -/
def nameCountsCard : Claim7 := { stood := { row := nameCountsRow, standIns := [], harness := (true, "2d5232b8d41e2cd858fe4e03a0ef7e090584420246772010d1057aa84fabf327"), looks := false }, kinds := [], alts := [], laidByText := true, laidKinds := [.data, .pinned], laidTests := true, laidLooks := .later }
def NameCountsCardSaid : Prop := Claim7.holds Tryd.pinned (.plain (OpenSpec.ofChange nameCountsSpec)) nameCountsCard

/-- THE TIED CARD OF 'exchequerlaw04.NamePlains'. -/
def namePlainsCard : Claim7 := { stood := { row := namePlainsRow, standIns := [], harness := (true, "2d5232b8d41e2cd858fe4e03a0ef7e090584420246772010d1057aa84fabf327"), looks := false }, kinds := [], alts := [], laidByText := true, laidKinds := [.data, .pinned], laidTests := true, laidLooks := .later }
def NamePlainsCardSaid : Prop := Claim7.holds Tryd.pinned (.plain (OpenSpec.ofChange namePlainsSpec)) namePlainsCard

/-- THE TIED CARD OF 'exchequerlaw04.NameEyes'. -/
def nameEyesCard : Claim7 := { stood := { row := nameEyesRow, standIns := [], harness := (true, "2d5232b8d41e2cd858fe4e03a0ef7e090584420246772010d1057aa84fabf327"), looks := false }, kinds := [], alts := [], laidByText := true, laidKinds := [.data, .pinned], laidTests := true, laidLooks := .later }
def NameEyesCardSaid : Prop := Claim7.holds Tryd.pinned (.plain (OpenSpec.ofChange nameEyesSpec)) nameEyesCard

/-- THE TIED CARD OF 'exchequerlaw04.NameJoins'. -/
def nameJoinsCard : Claim7 := { stood := { row := nameJoinsRow, standIns := [], harness := (true, "2d5232b8d41e2cd858fe4e03a0ef7e090584420246772010d1057aa84fabf327"), looks := false }, kinds := [], alts := [], laidByText := true, laidKinds := [.data, .pinned], laidTests := true, laidLooks := .later }
def NameJoinsCardSaid : Prop := Claim7.holds Tryd.pinned (.plain (OpenSpec.ofChange nameJoinsSpec)) nameJoinsCard

/-- THE TIED CARD OF 'exchequerlaw04.NameBacks'. -/
def nameBacksCard : Claim7 := { stood := { row := nameBacksRow, standIns := [], harness := (true, "2d5232b8d41e2cd858fe4e03a0ef7e090584420246772010d1057aa84fabf327"), looks := false }, kinds := [], alts := [], laidByText := true, laidKinds := [.data, .pinned], laidTests := true, laidLooks := .later }
def NameBacksCardSaid : Prop := Claim7.holds Tryd.pinned (.plain (OpenSpec.ofChange nameBacksSpec)) nameBacksCard

/-- THE SECOND FORM's CARD OF 'exchequerlaw04.NameRights'. -/
def nameRightsUptoCard : Claim7 := { stood := { row := nameRightsUptoRow, standIns := [], harness := (true, "2d5232b8d41e2cd858fe4e03a0ef7e090584420246772010d1057aa84fabf327"), looks := false }, kinds := [], alts := [], laidByText := true, laidKinds := [.data, .pinned], laidTests := true, laidLooks := .later }
def NameRightsUptoCardSaid : Prop := Claim7.holds Tryd.pinned (.plain (OpenSpec.upto nameRightsSpec)) nameRightsUptoCard

/-- THE SECOND FORM's CARD OF 'exchequerlaw04.NameCounts'. -/
def nameCountsUptoCard : Claim7 := { stood := { row := nameCountsUptoRow, standIns := [], harness := (true, "2d5232b8d41e2cd858fe4e03a0ef7e090584420246772010d1057aa84fabf327"), looks := false }, kinds := [], alts := [], laidByText := true, laidKinds := [.data, .pinned], laidTests := true, laidLooks := .later }
def NameCountsUptoCardSaid : Prop := Claim7.holds Tryd.pinned (.plain (OpenSpec.upto nameCountsSpec)) nameCountsUptoCard

/-- THE SECOND FORM's CARD OF 'exchequerlaw04.NamePlains'. -/
def namePlainsUptoCard : Claim7 := { stood := { row := namePlainsUptoRow, standIns := [], harness := (true, "2d5232b8d41e2cd858fe4e03a0ef7e090584420246772010d1057aa84fabf327"), looks := false }, kinds := [], alts := [], laidByText := true, laidKinds := [.data, .pinned], laidTests := true, laidLooks := .later }
def NamePlainsUptoCardSaid : Prop := Claim7.holds Tryd.pinned (.plain (OpenSpec.upto namePlainsSpec)) namePlainsUptoCard

/-- THE SECOND FORM's CARD OF 'exchequerlaw04.NameEyes'. -/
def nameEyesUptoCard : Claim7 := { stood := { row := nameEyesUptoRow, standIns := [], harness := (true, "2d5232b8d41e2cd858fe4e03a0ef7e090584420246772010d1057aa84fabf327"), looks := false }, kinds := [], alts := [], laidByText := true, laidKinds := [.data, .pinned], laidTests := true, laidLooks := .later }
def NameEyesUptoCardSaid : Prop := Claim7.holds Tryd.pinned (.plain (OpenSpec.upto nameEyesSpec)) nameEyesUptoCard

/-- THE SECOND FORM's CARD OF 'exchequerlaw04.NameJoins'. -/
def nameJoinsUptoCard : Claim7 := { stood := { row := nameJoinsUptoRow, standIns := [], harness := (true, "2d5232b8d41e2cd858fe4e03a0ef7e090584420246772010d1057aa84fabf327"), looks := false }, kinds := [], alts := [], laidByText := true, laidKinds := [.data, .pinned], laidTests := true, laidLooks := .later }
def NameJoinsUptoCardSaid : Prop := Claim7.holds Tryd.pinned (.plain (OpenSpec.upto nameJoinsSpec)) nameJoinsUptoCard

/-- THE SECOND FORM's CARD OF 'exchequerlaw04.NameBacks'. -/
def nameBacksUptoCard : Claim7 := { stood := { row := nameBacksUptoRow, standIns := [], harness := (true, "2d5232b8d41e2cd858fe4e03a0ef7e090584420246772010d1057aa84fabf327"), looks := false }, kinds := [], alts := [], laidByText := true, laidKinds := [.data, .pinned], laidTests := true, laidLooks := .later }
def NameBacksUptoCardSaid : Prop := Claim7.holds Tryd.pinned (.plain (OpenSpec.upto nameBacksSpec)) nameBacksUptoCard
end Rows
end Go.Proofs.YtbdknljpbgocmaaDoor
