/-
  pack.Reader: Num, Text, Flag, Left, End. Condition: what is ahead has fewer than 2^63 bytes.
-/
import Derived.Test.YtdiacfbflbenoaaPackR
namespace Go.Proofs.Ytdiacfbflbenoaa
open Go.RowKit
set_option linter.unusedSimpArgs false
set_option linter.unusedVariables false
set_option maxRecDepth 100000

theorem uptoFin_nat (most : Int) (n : Nat) (rest : List UInt8) : 0 ≤ (uptoFin most n rest).1 := by unfold uptoFin; split <;> simp
theorem upto_nat (st : RS) (most : Int) : 0 ≤ (upto st most).1 := by
  unfold upto
  split
  · simp
  · split
    · simp
    · split
      · simp
      · exact uptoFin_nat _ _ _
theorem uptoFin_len (most : Int) (n : Nat) (rest : List UInt8) : (uptoFin most n rest).2.s.length ≤ rest.length := by unfold uptoFin; split <;> simp [rfail]
theorem upto_len (st : RS) (most : Int) : (upto st most).2.s.length ≤ st.s.length := by
  unfold upto
  split
  · simp [rfail]
  · split
    · simp [rfail]
    · rename_i h
      rw [h]
      split
      · simp [rfail]
      · have := uptoFin_len most (val (List.take (‹UInt8›).toNat ‹List UInt8›)) (List.drop (‹UInt8›).toNat ‹List UInt8›)
        refine Nat.le_trans this ?_
        simp
        omega

def rtake (st : RS) (n : Nat) : List UInt8 × RS := if st.bad = true ∨ st.s.length < n then ([], rfail) else (st.s.take n, ⟨st.s.drop n, false⟩)
def rtext (st : RS) (most : Int) : List UInt8 × RS := rtake (upto st most).2 (upto st most).1.toNat
def rnum (st : RS) : Int × RS := upto st 4611686018427387903
def rflag (st : RS) : Bool × RS := ((upto st 1).1 == 1, (upto st 1).2)
def rend (st : RS) : Int := if st.bad = true ∨ 0 < st.s.length then 3 else 0

end Go.Proofs.Ytdiacfbflbenoaa
