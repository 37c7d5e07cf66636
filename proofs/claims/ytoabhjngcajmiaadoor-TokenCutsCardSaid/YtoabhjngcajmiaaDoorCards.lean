/-
  DERIVED. GIVEN WITH THE SEED: THE CARDS: each row of YtoabhjngcajmiaaDoorRows.lean that lists a variable, with what it lists TIED to the program's text (the seventh form; the later family's looks); each row that meets fmt, with fmt's text TOLD by the authors' own Lean function (tested against real Go, not proved from fmt's source: count such statements apart). THE CARD IS WHAT COUNTS. Prove the row's statement (the work); the ties are given (YtoabhjngcajmiaaDoorTie.lean); close each card by the builder's one call (the guide's Derived/Test/ToyasCard.lean, 'card_holds'). Laid BY PROGRAM, IN A SANDBOX (cutbox-door.mjs). By AI agents, Wed Nov 11 2026. No macro, syntax, notation, axiom, sorry.
-/
import Derived.Test.YtoabhjngcajmiaaDoorRows
import GoSem.ClaimSeven
namespace Go.Proofs.YtoabhjngcajmiaaDoor
namespace Rows

/-- THE TIED CARD OF 'exchequerlaw17.TokenMints'. -/
def tokenMintsCard : Claim7 := { stood := { row := tokenMintsRow, standIns := [], harness := (true, "d4d18335d76b4af2dddba1553308f028d14a0e26eddc2ffac9c7bad513fa5042"), looks := false }, kinds := [], alts := [], laidByText := true, laidKinds := [.data, .pinned], laidTests := true, laidLooks := .later }
def TokenMintsCardSaid : Prop := Claim7.holds Tryd.pinned (.plain (OpenSpec.ofChange tokenMintsSpec)) tokenMintsCard

/-- THE TIED CARD OF 'exchequerlaw17.TokenReads'. -/
def tokenReadsCard : Claim7 := { stood := { row := tokenReadsRow, standIns := [], harness := (true, "d4d18335d76b4af2dddba1553308f028d14a0e26eddc2ffac9c7bad513fa5042"), looks := false }, kinds := [], alts := [], laidByText := true, laidKinds := [.data, .pinned], laidTests := true, laidLooks := .later }
def TokenReadsCardSaid : Prop := Claim7.holds Tryd.pinned (.plain (OpenSpec.ofChange tokenReadsSpec)) tokenReadsCard

/-- THE TIED CARD OF 'exchequerlaw17.TokenOnly'. -/
def tokenOnlyCard : Claim7 := { stood := { row := tokenOnlyRow, standIns := [], harness := (true, "d4d18335d76b4af2dddba1553308f028d14a0e26eddc2ffac9c7bad513fa5042"), looks := false }, kinds := [], alts := [], laidByText := true, laidKinds := [.data, .pinned], laidTests := true, laidLooks := .later }
def TokenOnlyCardSaid : Prop := Claim7.holds Tryd.pinned (.plain (OpenSpec.ofChange tokenOnlySpec)) tokenOnlyCard

/-- THE TIED CARD OF 'exchequerlaw17.TokenUnlike'. -/
def tokenUnlikeCard : Claim7 := { stood := { row := tokenUnlikeRow, standIns := [], harness := (true, "d4d18335d76b4af2dddba1553308f028d14a0e26eddc2ffac9c7bad513fa5042"), looks := false }, kinds := [], alts := [], laidByText := true, laidKinds := [.data, .pinned], laidTests := true, laidLooks := .later }
def TokenUnlikeCardSaid : Prop := Claim7.holds Tryd.pinned (.plain (OpenSpec.ofChange tokenUnlikeSpec)) tokenUnlikeCard

/-- THE TIED CARD OF 'exchequerlaw17.TokenCuts'. -/
def tokenCutsCard : Claim7 := { stood := { row := tokenCutsRow, standIns := [], harness := (true, "d4d18335d76b4af2dddba1553308f028d14a0e26eddc2ffac9c7bad513fa5042"), looks := false }, kinds := [], alts := [], laidByText := true, laidKinds := [.data, .pinned], laidTests := true, laidLooks := .later }
def TokenCutsCardSaid : Prop := Claim7.holds Tryd.pinned (.plain (OpenSpec.ofChange tokenCutsSpec)) tokenCutsCard

/-- THE SECOND FORM's CARD OF 'exchequerlaw17.TokenMints'. -/
def tokenMintsUptoCard : Claim7 := { stood := { row := tokenMintsUptoRow, standIns := [], harness := (true, "d4d18335d76b4af2dddba1553308f028d14a0e26eddc2ffac9c7bad513fa5042"), looks := false }, kinds := [], alts := [], laidByText := true, laidKinds := [.data, .pinned], laidTests := true, laidLooks := .later }
def TokenMintsUptoCardSaid : Prop := Claim7.holds Tryd.pinned (.plain (OpenSpec.upto tokenMintsSpec)) tokenMintsUptoCard

/-- THE SECOND FORM's CARD OF 'exchequerlaw17.TokenReads'. -/
def tokenReadsUptoCard : Claim7 := { stood := { row := tokenReadsUptoRow, standIns := [], harness := (true, "d4d18335d76b4af2dddba1553308f028d14a0e26eddc2ffac9c7bad513fa5042"), looks := false }, kinds := [], alts := [], laidByText := true, laidKinds := [.data, .pinned], laidTests := true, laidLooks := .later }
def TokenReadsUptoCardSaid : Prop := Claim7.holds Tryd.pinned (.plain (OpenSpec.upto tokenReadsSpec)) tokenReadsUptoCard

/-- THE SECOND FORM's CARD OF 'exchequerlaw17.TokenOnly'. -/
def tokenOnlyUptoCard : Claim7 := { stood := { row := tokenOnlyUptoRow, standIns := [], harness := (true, "d4d18335d76b4af2dddba1553308f028d14a0e26eddc2ffac9c7bad513fa5042"), looks := false }, kinds := [], alts := [], laidByText := true, laidKinds := [.data, .pinned], laidTests := true, laidLooks := .later }
def TokenOnlyUptoCardSaid : Prop := Claim7.holds Tryd.pinned (.plain (OpenSpec.upto tokenOnlySpec)) tokenOnlyUptoCard

/-- THE SECOND FORM's CARD OF 'exchequerlaw17.TokenUnlike'. -/
def tokenUnlikeUptoCard : Claim7 := { stood := { row := tokenUnlikeUptoRow, standIns := [], harness := (true, "d4d18335d76b4af2dddba1553308f028d14a0e26eddc2ffac9c7bad513fa5042"), looks := false }, kinds := [], alts := [], laidByText := true, laidKinds := [.data, .pinned], laidTests := true, laidLooks := .later }
def TokenUnlikeUptoCardSaid : Prop := Claim7.holds Tryd.pinned (.plain (OpenSpec.upto tokenUnlikeSpec)) tokenUnlikeUptoCard

/-- THE SECOND FORM's CARD OF 'exchequerlaw17.TokenCuts'. -/
def tokenCutsUptoCard : Claim7 := { stood := { row := tokenCutsUptoRow, standIns := [], harness := (true, "d4d18335d76b4af2dddba1553308f028d14a0e26eddc2ffac9c7bad513fa5042"), looks := false }, kinds := [], alts := [], laidByText := true, laidKinds := [.data, .pinned], laidTests := true, laidLooks := .later }
def TokenCutsUptoCardSaid : Prop := Claim7.holds Tryd.pinned (.plain (OpenSpec.upto tokenCutsSpec)) tokenCutsUptoCard
end Rows
end Go.Proofs.YtoabhjngcajmiaaDoor
