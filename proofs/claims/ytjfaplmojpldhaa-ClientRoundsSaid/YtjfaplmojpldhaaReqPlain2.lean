/-
  Requests as plain Lean: what Decode reads. No condition.
-/
import Derived.Test.YtjfaplmojpldhaaReqPlain
import Derived.Test.YtjfaplmojpldhaaPackR2
namespace Go.Proofs.Ytjfaplmojpldhaa
open Go.RowKit
set_option linter.unusedSimpArgs false
set_option linter.unusedVariables false

theorem upto_neg (st : RS) : (upto st (-1)).2 = rfail := by
  have h := upto_nat st (-1)
  unfold upto uptoFin at h ⊢
  repeat' split
  all_goals simp_all
  all_goals omega
theorem uptoQ_most (st : RS) (m : Int) (hm : 0 ≤ m) : (upto st m).1 ≤ m := by
  unfold upto uptoFin
  repeat' split
  all_goals simp_all
  all_goals omega
/-- Texts are read up to `m` bytes. -/
def actR (m : Int) (st : RS) : Da × RS :=
  let k := (upto st 3).1
  let s := (upto st 3).2
  if k = 1 then (⟨k, (rtext s m).1, (rtext (rtext s m).2 m).1, [], [], (rnum (rtext (rtext s m).2 m).2).1, (rnum (rnum (rtext (rtext s m).2 m).2).2).1⟩, (rnum (rnum (rtext (rtext s m).2 m).2).2).2)
  else if k = 2 then (⟨k, [], [], (rtext s m).1, (rtext (rtext s m).2 m).1, 0, 0⟩, (rtext (rtext s m).2 m).2)
  else if k = 3 then (⟨k, (rtext s m).1, (rtext (rtext s m).2 m).1, [], [], 0, 0⟩, (rtext (rtext s m).2 m).2)
  else (⟨k, [], [], [], [], 0, 0⟩, rfail)
def actsR : Nat → List Da → RS → List Da × RS
  | 0, l, st => (l, st)
  | n + 1, l, st => if (actR 8192 st).2.s.length = 0 ∧ rend (actR 8192 st).2 ≠ 0 then ([], (actR 8192 st).2) else actsR n (l ++ [(actR 8192 st).1]) (actR 8192 st).2
def rdActs (st : RS) : List Da × RS := actsR (upto st 8192).1.toNat [] (upto st 8192).2
def cmpR (m : Int) (st : RS) : Cp × RS := (⟨(rtext st m).1, (rnum (rtext st m).2).1, (rnum (rnum (rtext st m).2).2).1, (rtext (rnum (rnum (rtext st m).2).2).2 m).1⟩, (rtext (rnum (rnum (rtext st m).2).2).2 m).2)
def cmpsR : Nat → List Cp → RS → List Cp × RS
  | 0, l, st => (l, st)
  | n + 1, l, st => if (cmpR 8192 st).2.s.length = 0 then (l ++ [(cmpR 8192 st).1], (cmpR 8192 st).2) else cmpsR n (l ++ [(cmpR 8192 st).1]) (cmpR 8192 st).2
def rdCmps (st : RS) : List Cp × RS := cmpsR (upto st 8192).1.toNat [] (upto st 8192).2
/-- What stands behind the head, by the kind. -/
def rqK (c q : Int) (t : List UInt8) (k : Int) (s : RS) : Cm × RS :=
  if k = 1 then (⟨c, q, t, k, (rtext s 8192).1, [], (rtext (rtext s 8192).2 8192).1, [], 0, 0, [], [], false, false, 0, [], [], []⟩, (rtext (rtext s 8192).2 8192).2)
  else if k = 2 then (⟨c, q, t, k, [], [], [], [], 0, 0, [], [], false, false, 0, (rdCmps s).1, (rdActs (rdCmps s).2).1, (rdActs (rdActs (rdCmps s).2).2).1⟩, (rdActs (rdActs (rdCmps s).2).2).2)
  else if k = 3 then (⟨c, q, t, k, [], [], [], [], 0, 0, [], [], false, false, (rnum s).1, [], [], []⟩, (rnum s).2)
  else if k = 4 ∨ k = 5 then (⟨c, q, t, k, (rtext s 8192).1, [], [], [], (rnum (rtext s 8192).2).1, (rnum (rnum (rtext s 8192).2).2).1, [], [], false, false, 0, [], [], []⟩, (rnum (rnum (rtext s 8192).2).2).2)
  else if k = 6 then (⟨c, q, t, k, (rtext s 8192).1, (rtext (rtext s 8192).2 8192).1, (rtext (rtext (rtext s 8192).2 8192).2 8192).1, (rtext (rtext (rtext (rtext s 8192).2 8192).2 8192).2 8192).1, 0, 0, [], [], false, false, 0, [], [], []⟩, (rtext (rtext (rtext (rtext s 8192).2 8192).2 8192).2 8192).2)
  else if k = 7 then (⟨c, q, t, k, (rtext s 8192).1, [], (rtext (rtext s 8192).2 8192).1, (rtext (rtext (rtext s 8192).2 8192).2 8192).1, 0, 0, [], [], false, false, 0, [], [], []⟩, (rtext (rtext (rtext s 8192).2 8192).2 8192).2)
  else if k = 8 ∨ k = 10 then (⟨c, q, t, k, (rtext s 8192).1, [], [], [], 0, 0, [], [], false, false, 0, [], [], []⟩, (rtext s 8192).2)
  else if k = 9 ∨ k = 13 ∨ k = 14 then (⟨c, q, t, k, (rtext s 8192).1, (rtext (rtext s 8192).2 8192).1, [], [], 0, 0, [], [], false, false, 0, [], [], []⟩, (rtext (rtext s 8192).2 8192).2)
  else if k = 11 then (⟨c, q, t, k, (rtext s 8192).1, [], [], [], 0, 0, (rtext (rtext s 8192).2 8192).1, (rtext (rtext (rtext s 8192).2 8192).2 8192).1, (rflag (rtext (rtext (rtext s 8192).2 8192).2 8192).2).1, (rflag (rflag (rtext (rtext (rtext s 8192).2 8192).2 8192).2).2).1, 0, [], [], []⟩, (rflag (rflag (rtext (rtext (rtext s 8192).2 8192).2 8192).2).2).2)
  else if k = 12 then (⟨c, q, t, k, (rtext s 8192).1, [], [], [], 0, 0, (rtext (rtext s 8192).2 8192).1, (rtext (rtext (rtext s 8192).2 8192).2 8192).1, false, false, 0, [], [], []⟩, (rtext (rtext (rtext s 8192).2 8192).2 8192).2)
  else (⟨c, q, t, k, [], [], [], [], 0, 0, [], [], false, false, 0, [], [], []⟩, s)
def readC (st : RS) : Cm × RS := rqK (rnum (upto st 14).2).1 (rnum (rnum (upto st 14).2).2).1 (rtext (rnum (rnum (upto st 14).2).2).2 8192).1 (upto st 14).1 (rtext (rnum (rnum (upto st 14).2).2).2 8192).2
theorem rqK_kind (c q : Int) (t : List UInt8) (k : Int) (s : RS) : (rqK c q t k s).1.kind = k ∧ (rqK c q t k s).1.client = c ∧ (rqK c q t k s).1.seq = q ∧ (rqK c q t k s).1.token = t := by
  unfold rqK
  repeat' split
  all_goals exact ⟨rfl, rfl, rfl, rfl⟩
theorem actsR_len (n : Nat) (l : List Da) (st : RS) : (actsR n l st).1.length ≤ l.length + n := by
  induction n generalizing l st with
  | zero => simp [actsR]
  | succ n ih =>
    unfold actsR
    split
    · simp
    · have := ih (l ++ [(actR 8192 st).1]) (actR 8192 st).2
      simp at this
      omega
theorem cmpsR_len (n : Nat) (l : List Cp) (st : RS) : (cmpsR n l st).1.length ≤ l.length + n := by
  induction n generalizing l st with
  | zero => simp [cmpsR]
  | succ n ih =>
    unfold cmpsR
    split
    · simp
    · have := ih (l ++ [(cmpR 8192 st).1]) (cmpR 8192 st).2
      simp at this
      omega
end Go.Proofs.Ytjfaplmojpldhaa
