/-
  Chapter 1 in plain words: the check sum as a register of 32 bits, and as a division of coefficients; both are one; a byte that is turned turns the sum. No program in sight.
-/
import Derived.Test.YtnkbphecabnnaaaGreatDoorZHashWord
namespace Go.Proofs.YtnkbphecabnnaaaGreatDoor
open Go.RowKit
set_option linter.unusedSimpArgs false
set_option linter.unusedVariables false

def crcPoly : Wd := 0xEDB88320#32
def crcLow (s : Wd) : Bool := s.getLsbD 0
def crcStep (s : Wd) : Wd := if crcLow s then wxor (wshr s 1) crcPoly else wshr s 1
def crcIter : Nat → Wd → Wd
  | 0, s => s
  | k + 1, s => crcIter k (crcStep s)
def crcByte (s : Wd) (c : UInt8) : Wd := crcIter 8 (wxor s (wb c))
def crcFrom (s : Wd) (bs : List UInt8) : Wd := bs.foldl crcByte s
def crcL (bs : List UInt8) : Wd := wnot (crcFrom (wnot 0#32) bs)
theorem crcIter_succ (k : Nat) (s : Wd) : crcIter (k + 1) s = crcStep (crcIter k s) := by
  induction k generalizing s with
  | zero => rfl
  | succ k ih => rw [crcIter, ih]; rfl

/-! ### a byte that is turned -/
/-! ### the division -/
end Go.Proofs.YtnkbphecabnnaaaGreatDoor
