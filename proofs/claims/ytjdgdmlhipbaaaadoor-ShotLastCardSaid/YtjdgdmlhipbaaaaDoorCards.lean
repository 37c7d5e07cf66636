/-
  DERIVED. GIVEN WITH THE SEED: THE CARDS: each row of YtjdgdmlhipbaaaaDoorRows.lean that lists a variable, with what it lists TIED to the program's text (the seventh form; the later family's looks); each row that meets fmt, with fmt's text TOLD by the authors' own Lean function (tested against real Go, not proved from fmt's source: count such statements apart). THE CARD IS WHAT COUNTS. Prove the row's statement (the work); the ties are given (YtjdgdmlhipbaaaaDoorTie.lean); close each card by the builder's one call (the guide's Derived/Test/ToyasCard.lean, 'card_holds'). Laid BY PROGRAM, IN A SANDBOX (cutbox-door.mjs). By AI agents, Wed Nov 11 2026. No macro, syntax, notation, axiom, sorry.
-/
import Derived.Test.YtjdgdmlhipbaaaaDoorRows
import GoSem.ClaimSeven
namespace Go.Proofs.YtjdgdmlhipbaaaaDoor
namespace Rows

/-- THE TIED CARD OF 'exchequerlaw08.ShotLast'. -/
def shotLastCard : Claim7 := { stood := { row := shotLastRow, standIns := [], harness := (true, "f8622600815ecf376664eb27b9fa9281c03b4e39ba82d092f1bc845a29293231"), looks := false }, kinds := [], alts := [], laidByText := true, laidKinds := [.data, .data, .data, .data, .pinned], laidTests := true, laidLooks := .later }
def ShotLastCardSaid : Prop := Claim7.holds Tryd.pinned (.plain (OpenSpec.ofChange shotLastSpec)) shotLastCard

/-- THE TIED CARD OF 'exchequerlaw08.ShotNone'. -/
def shotNoneCard : Claim7 := { stood := { row := shotNoneRow, standIns := [], harness := (true, "f8622600815ecf376664eb27b9fa9281c03b4e39ba82d092f1bc845a29293231"), looks := false }, kinds := [], alts := [], laidByText := true, laidKinds := [.data, .data, .data, .data, .pinned], laidTests := true, laidLooks := .later }
def ShotNoneCardSaid : Prop := Claim7.holds Tryd.pinned (.plain (OpenSpec.ofChange shotNoneSpec)) shotNoneCard

/-- THE TIED CARD OF 'exchequerlaw08.ShotTorn'. -/
def shotTornCard : Claim7 := { stood := { row := shotTornRow, standIns := [], harness := (true, "f8622600815ecf376664eb27b9fa9281c03b4e39ba82d092f1bc845a29293231"), looks := false }, kinds := [], alts := [], laidByText := true, laidKinds := [.data, .data, .data, .data, .pinned], laidTests := true, laidLooks := .later }
def ShotTornCardSaid : Prop := Claim7.holds Tryd.pinned (.plain (OpenSpec.ofChange shotTornSpec)) shotTornCard

/-- THE TIED CARD OF 'exchequerlaw08.ShotCrash'. -/
def shotCrashCard : Claim7 := { stood := { row := shotCrashRow, standIns := [], harness := (true, "f8622600815ecf376664eb27b9fa9281c03b4e39ba82d092f1bc845a29293231"), looks := false }, kinds := [], alts := [], laidByText := true, laidKinds := [.data, .data, .data, .data, .pinned], laidTests := true, laidLooks := .later }
def ShotCrashCardSaid : Prop := Claim7.holds Tryd.pinned (.plain (OpenSpec.ofChange shotCrashSpec)) shotCrashCard

/-- THE SECOND FORM's CARD OF 'exchequerlaw08.ShotLast'. -/
def shotLastUptoCard : Claim7 := { stood := { row := shotLastUptoRow, standIns := [], harness := (true, "f8622600815ecf376664eb27b9fa9281c03b4e39ba82d092f1bc845a29293231"), looks := false }, kinds := [], alts := [], laidByText := true, laidKinds := [.data, .data, .data, .data, .pinned], laidTests := true, laidLooks := .later }
def ShotLastUptoCardSaid : Prop := Claim7.holds Tryd.pinned (.plain (OpenSpec.upto shotLastSpec)) shotLastUptoCard

/-- THE SECOND FORM's CARD OF 'exchequerlaw08.ShotNone'. -/
def shotNoneUptoCard : Claim7 := { stood := { row := shotNoneUptoRow, standIns := [], harness := (true, "f8622600815ecf376664eb27b9fa9281c03b4e39ba82d092f1bc845a29293231"), looks := false }, kinds := [], alts := [], laidByText := true, laidKinds := [.data, .data, .data, .data, .pinned], laidTests := true, laidLooks := .later }
def ShotNoneUptoCardSaid : Prop := Claim7.holds Tryd.pinned (.plain (OpenSpec.upto shotNoneSpec)) shotNoneUptoCard

/-- THE SECOND FORM's CARD OF 'exchequerlaw08.ShotTorn'. -/
def shotTornUptoCard : Claim7 := { stood := { row := shotTornUptoRow, standIns := [], harness := (true, "f8622600815ecf376664eb27b9fa9281c03b4e39ba82d092f1bc845a29293231"), looks := false }, kinds := [], alts := [], laidByText := true, laidKinds := [.data, .data, .data, .data, .pinned], laidTests := true, laidLooks := .later }
def ShotTornUptoCardSaid : Prop := Claim7.holds Tryd.pinned (.plain (OpenSpec.upto shotTornSpec)) shotTornUptoCard

/-- THE SECOND FORM's CARD OF 'exchequerlaw08.ShotCrash'. -/
def shotCrashUptoCard : Claim7 := { stood := { row := shotCrashUptoRow, standIns := [], harness := (true, "f8622600815ecf376664eb27b9fa9281c03b4e39ba82d092f1bc845a29293231"), looks := false }, kinds := [], alts := [], laidByText := true, laidKinds := [.data, .data, .data, .data, .pinned], laidTests := true, laidLooks := .later }
def ShotCrashUptoCardSaid : Prop := Claim7.holds Tryd.pinned (.plain (OpenSpec.upto shotCrashSpec)) shotCrashUptoCard
end Rows
end Go.Proofs.YtjdgdmlhipbaaaaDoor
