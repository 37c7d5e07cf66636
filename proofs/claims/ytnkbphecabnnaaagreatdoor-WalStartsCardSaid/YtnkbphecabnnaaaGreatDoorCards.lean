/-
  DERIVED. GIVEN WITH THE SEED: THE CARDS: each row of YtnkbphecabnnaaaGreatDoorRows.lean that lists a variable, with what it lists TIED to the program's text (the seventh form; the later family's looks); each row that meets fmt, with fmt's text TOLD by the authors' own Lean function (tested against real Go, not proved from fmt's source: count such statements apart). THE CARD IS WHAT COUNTS. Prove the row's statement (the work); the ties are given (YtnkbphecabnnaaaGreatDoorTie.lean); close each card by the builder's one call (the guide's Derived/Test/ToyasCard.lean, 'card_holds'). Laid BY PROGRAM, IN A SANDBOX (cutbox-door.mjs). By AI agents, Wed Nov 11 2026. No macro, syntax, notation, axiom, sorry.
-/
import Derived.Test.YtnkbphecabnnaaaGreatDoorRows
import GoSem.ClaimSeven
namespace Go.Proofs.YtnkbphecabnnaaaGreatDoor
namespace Rows

/-- THE TIED CARD OF 'exchequerlaw07.WalAny'. -/
def walAnyCard : Claim7 := { stood := { row := walAnyRow, standIns := [], harness := (true, "92b22b485735d9f466182636cb955383a23968515293931fc0b61d36a1d4cb66"), looks := true }, kinds := [], alts := [], laidByText := true, laidKinds := [.data, .data, .data, .data, .sentinel, .sentinel, .pinned], laidTests := true, laidLooks := .later }
def WalAnyCardSaid : Prop := Claim7.holds Tryz.pinned (.plain (OpenSpec.ofChange walAnySpec)) walAnyCard

/-- THE TIED CARD OF 'exchequerlaw07.WalNone'. -/
def walNoneCard : Claim7 := { stood := { row := walNoneRow, standIns := [], harness := (true, "92b22b485735d9f466182636cb955383a23968515293931fc0b61d36a1d4cb66"), looks := true }, kinds := [], alts := [], laidByText := true, laidKinds := [.data, .data, .data, .data, .sentinel, .sentinel, .pinned], laidTests := true, laidLooks := .later }
def WalNoneCardSaid : Prop := Claim7.holds Tryz.pinned (.plain (OpenSpec.ofChange walNoneSpec)) walNoneCard

/-- THE TIED CARD OF 'exchequerlaw07.WalCrash'. -/
def walCrashCard : Claim7 := { stood := { row := walCrashRow, standIns := [], harness := (true, "92b22b485735d9f466182636cb955383a23968515293931fc0b61d36a1d4cb66"), looks := true }, kinds := [], alts := [], laidByText := true, laidKinds := [.data, .data, .data, .data, .sentinel, .sentinel, .pinned], laidTests := true, laidLooks := .later }
def WalCrashCardSaid : Prop := Claim7.holds Tryz.pinned (.plain (OpenSpec.ofChange walCrashSpec)) walCrashCard

/-- THE TIED CARD OF 'exchequerlaw07.WalStarts'. -/
def walStartsCard : Claim7 := { stood := { row := walStartsRow, standIns := [], harness := (true, "92b22b485735d9f466182636cb955383a23968515293931fc0b61d36a1d4cb66"), looks := true }, kinds := [], alts := [], laidByText := true, laidKinds := [.data, .data, .data, .data, .sentinel, .sentinel, .pinned], laidTests := true, laidLooks := .later }
def WalStartsCardSaid : Prop := Claim7.holds Tryz.pinned (.plain (OpenSpec.ofChange walStartsSpec)) walStartsCard

/-- THE SECOND FORM's CARD OF 'exchequerlaw07.WalAny'. -/
def walAnyUptoCard : Claim7 := { stood := { row := walAnyUptoRow, standIns := [], harness := (true, "92b22b485735d9f466182636cb955383a23968515293931fc0b61d36a1d4cb66"), looks := true }, kinds := [], alts := [], laidByText := true, laidKinds := [.data, .data, .data, .data, .sentinel, .sentinel, .pinned], laidTests := true, laidLooks := .later }
def WalAnyUptoCardSaid : Prop := Claim7.holds Tryz.pinned (.plain (OpenSpec.upto walAnySpec)) walAnyUptoCard

/-- THE SECOND FORM's CARD OF 'exchequerlaw07.WalNone'. -/
def walNoneUptoCard : Claim7 := { stood := { row := walNoneUptoRow, standIns := [], harness := (true, "92b22b485735d9f466182636cb955383a23968515293931fc0b61d36a1d4cb66"), looks := true }, kinds := [], alts := [], laidByText := true, laidKinds := [.data, .data, .data, .data, .sentinel, .sentinel, .pinned], laidTests := true, laidLooks := .later }
def WalNoneUptoCardSaid : Prop := Claim7.holds Tryz.pinned (.plain (OpenSpec.upto walNoneSpec)) walNoneUptoCard

/-- THE SECOND FORM's CARD OF 'exchequerlaw07.WalCrash'. -/
def walCrashUptoCard : Claim7 := { stood := { row := walCrashUptoRow, standIns := [], harness := (true, "92b22b485735d9f466182636cb955383a23968515293931fc0b61d36a1d4cb66"), looks := true }, kinds := [], alts := [], laidByText := true, laidKinds := [.data, .data, .data, .data, .sentinel, .sentinel, .pinned], laidTests := true, laidLooks := .later }
def WalCrashUptoCardSaid : Prop := Claim7.holds Tryz.pinned (.plain (OpenSpec.upto walCrashSpec)) walCrashUptoCard

/-- THE SECOND FORM's CARD OF 'exchequerlaw07.WalStarts'. -/
def walStartsUptoCard : Claim7 := { stood := { row := walStartsUptoRow, standIns := [], harness := (true, "92b22b485735d9f466182636cb955383a23968515293931fc0b61d36a1d4cb66"), looks := true }, kinds := [], alts := [], laidByText := true, laidKinds := [.data, .data, .data, .data, .sentinel, .sentinel, .pinned], laidTests := true, laidLooks := .later }
def WalStartsUptoCardSaid : Prop := Claim7.holds Tryz.pinned (.plain (OpenSpec.upto walStartsSpec)) walStartsUptoCard
end Rows
end Go.Proofs.YtnkbphecabnnaaaGreatDoor
