/-
  shot.read: a file's snapshot, if that is whole.
-/
import Derived.Test.YtnkbphecabnnaaaGreatDoorZGA
import Derived.Test.YtnkbphecabnnaaaGreatDoorZGB
import Derived.Test.YtnkbphecabnnaaaGreatDoorZGN
import Derived.Test.YtnkbphecabnnaaaGreatDoorZGM
import Derived.Test.YtnkbphecabnnaaaGreatDoorZGK
namespace Go.Proofs.YtnkbphecabnnaaaGreatDoor
open Go.RowKit
set_option linter.unusedSimpArgs false
set_option linter.unusedVariables false
set_option maxRecDepth 100000

theorem readS_len {s : St} (h : StB s) (f : List UInt8) : (readS s f).1.length ≤ 8388608 := by
  unfold readS
  split
  · simp
  · split
    · simp
    · rename_i x hx
      have h1 := used_mem (eget_mem hx).1
      have := h.used
      rw [List.length_append]
      omega
theorem srtake_len (st : RS) (n : Nat) : (rtake st n).1.length ≤ st.s.length ∧ (rtake st n).2.s.length ≤ st.s.length := by
  unfold rtake
  split
  · simp [rfail]
  · simp; omega
theorem srtext_len (st : RS) (m : Int) : (rtext st m).1.length ≤ st.s.length ∧ (rtext st m).2.s.length ≤ st.s.length := by
  have h1 := srtake_len (upto st m).2 (upto st m).1.toNat
  have h2 := upto_len st m
  unfold rtext
  omega
theorem rnum_len (st : RS) : (rnum st).2.s.length ≤ st.s.length := upto_len st _
end Go.Proofs.YtnkbphecabnnaaaGreatDoor
