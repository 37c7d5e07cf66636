/-
  pack.Reader: what each method does to a reader, and on none. Conditions: a count that is taken is not below 0.
-/
import Derived.Test.YtdiacfbflbenoaaPackNum
import Derived.Test.YtdiacfbflbenoaaMem
namespace Go.Proofs.Ytdiacfbflbenoaa
open Go.RowKit
set_option linter.unusedSimpArgs false
set_option linter.unusedVariables false
set_option maxRecDepth 100000

/-- What a reader holds: what is ahead, whether there was a fault. -/
structure RS where
  s : List UInt8
  bad : Bool

def rfail : RS := ⟨[], true⟩

/-! ### Upto -/
def val (l : List UInt8) : Nat := l.foldl (fun n c => n * 256 + c.toNat) 0
theorem val_snoc (l : List UInt8) (c : UInt8) : val (l ++ [c]) = val l * 256 + c.toNat := by simp [val]
theorem val_lt (l : List UInt8) : val l < 256 ^ l.length := by
  suffices h : ∀ m : List UInt8, val m.reverse < 256 ^ m.length by
    have := h l.reverse
    simpa using this
  intro m
  induction m with
  | nil => simp [val]
  | cons c m ih =>
    rw [List.reverse_cons, val_snoc, List.length_cons, Nat.pow_succ]
    have := c.toNat_lt
    omega

/-- The number's end: it is one if it isn't too great. -/
def uptoFin (most : Int) (n : Nat) (rest : List UInt8) : Int × RS := if 4611686018427387903 < n ∨ most < n then (0, rfail) else (n, ⟨rest, false⟩)
def upto (st : RS) (most : Int) : Int × RS :=
  if st.bad then (0, rfail) else match st.s with
  | [] => (0, rfail)
  | h :: rest => if rest.length < h.toNat ∨ 8 < h.toNat ∨ (0 < h.toNat ∧ rest.head? = some 0) then (0, rfail) else uptoFin most (val (rest.take h.toNat)) (rest.drop h.toNat)

theorem bits_low (V : Nat) (c : UInt8) (h : V < 72057594037927936) : bits .or .u64 (IntKind.u64.wrap ((V : Int) * 256)) (c.toNat : Int) = ((V * 256 + c.toNat : Nat) : Int) := by
  have hc := c.toNat_lt
  have hw : IntKind.u64.wrap ((V : Int) * 256) = ((V * 256 : Nat) : Int) := by
    rw [IntWalk.u64_in _ (by omega)]
    simp
  rw [hw, u64_or_nat _ _ (by omega) (by omega), Nat.or_comm, nat_join8' _ _ (by omega) (by omega)]

theorem val_take (b : List UInt8) (k : Nat) (h : k < b.length) : val (b.take (k + 1)) = val (b.take k) * 256 + b[k].toNat := by
  rw [List.take_succ_eq_append_getElem h, val_snoc]

end Go.Proofs.Ytdiacfbflbenoaa
