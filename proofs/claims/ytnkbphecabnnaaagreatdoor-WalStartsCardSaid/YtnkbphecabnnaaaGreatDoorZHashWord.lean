/-
  Words of 32 bits as BitVec, as the walk spells them; the two functions that turn a word. No condition.
-/
import Derived.Test.YtnkbphecabnnaaaGreatDoorZGA
import Derived.Test.YtnkbphecabnnaaaGreatDoorProg
namespace Go.Proofs.YtnkbphecabnnaaaGreatDoor
open Go.RowKit
set_option linter.unusedSimpArgs false
set_option linter.unusedVariables false

/-- A word. -/
abbrev Wd := BitVec 32
/-- A word as a value. -/
abbrev wv (x : Wd) : Value := .int .u32 (x.toNat : Int)
/-- A byte as a word. -/
def wb (c : UInt8) : Wd := BitVec.ofNat 32 c.toNat

def wadd (x y : Wd) : Wd := x + y
def wand (x y : Wd) : Wd := x &&& y
def wor (x y : Wd) : Wd := x ||| y
def wxor (x y : Wd) : Wd := x ^^^ y
def wnot (x : Wd) : Wd := ~~~x
def wshl (x : Wd) (n : Nat) : Wd := x <<< n
def wshr (x : Wd) (n : Nat) : Wd := x >>> n

theorem wd_wrap (n : Nat) : IntKind.u32.wrap (n : Int) = ((BitVec.ofNat 32 n).toNat : Int) := by
  rw [IntKind.wrap_u32', BitVec.toNat_ofNat]; omega
@[go_sem high] theorem wd_add (x y : Wd) : IntKind.u32.wrap ((x.toNat : Int) + (y.toNat : Int)) = ((wadd x y).toNat : Int) := by
  rw [IntKind.wrap_u32', wadd, BitVec.toNat_add]; omega
theorem wd_shl_nat (x : Wd) (n : Nat) : IntKind.u32.wrap ((x.toNat * 2 ^ n : Nat) : Int) = ((wshl x n).toNat : Int) := by
  rw [wd_wrap, wshl, BitVec.toNat_shiftLeft, BitVec.toNat_ofNat, Nat.shiftLeft_eq]
@[go_sem high] theorem wd_shl (x : Wd) (n : Nat) : IntKind.u32.wrap ((x.toNat : Int) * 2 ^ n) = ((wshl x n).toNat : Int) := by
  rw [← wd_shl_nat]; push_cast; rfl
@[go_sem high] theorem wd_shl8 (x : Wd) : IntKind.u32.wrap ((x.toNat : Int) * 256) = ((wshl x 8).toNat : Int) := wd_shl x 8
@[go_sem high] theorem wd_shl16 (x : Wd) : IntKind.u32.wrap ((x.toNat : Int) * 65536) = ((wshl x 16).toNat : Int) := wd_shl x 16
@[go_sem high] theorem wd_shl24 (x : Wd) : IntKind.u32.wrap ((x.toNat : Int) * 16777216) = ((wshl x 24).toNat : Int) := wd_shl x 24
@[go_sem high] theorem wd_shr (x : Wd) (n : Nat) : (x.toNat : Int) / 2 ^ n = ((wshr x n).toNat : Int) := by
  rw [wshr, BitVec.toNat_ushiftRight, Nat.shiftRight_eq_div_pow]; push_cast; rfl
@[go_sem high] theorem wd_shr3 (x : Wd) : (x.toNat : Int) / 8 = ((wshr x 3).toNat : Int) := wd_shr x 3
@[go_sem high] theorem wd_shr8 (x : Wd) : (x.toNat : Int) / 256 = ((wshr x 8).toNat : Int) := wd_shr x 8
@[go_sem high] theorem wd_shr10 (x : Wd) : (x.toNat : Int) / 1024 = ((wshr x 10).toNat : Int) := wd_shr x 10
@[go_sem high] theorem wd_shr16 (x : Wd) : (x.toNat : Int) / 65536 = ((wshr x 16).toNat : Int) := wd_shr x 16
@[go_sem high] theorem wd_shr24 (x : Wd) : (x.toNat : Int) / 16777216 = ((wshr x 24).toNat : Int) := wd_shr x 24
theorem wd_bits {op : BinOp} (x : Wd) : BitVec.ofInt 32 (x.toNat : Int) = x := by
  rw [BitVec.ofInt_natCast, BitVec.ofNat_toNat, BitVec.setWidth_eq]
theorem wd_back (x : Wd) : IntKind.u32.wrap (x.toNat : Int) = (x.toNat : Int) := by
  rw [IntKind.wrap_u32']; have := x.isLt; omega
@[go_sem high] theorem wd_and (x y : Wd) : bits .and .u32 (x.toNat : Int) (y.toNat : Int) = ((wand x y).toNat : Int) := by
  show IntKind.u32.wrap ((BitVec.ofInt 32 (x.toNat : Int) &&& BitVec.ofInt 32 (y.toNat : Int)).toNat : Int) = _
  rw [wd_bits (op := .and), wd_bits (op := .and), wd_back]; rfl
@[go_sem high] theorem wd_or (x y : Wd) : bits .or .u32 (x.toNat : Int) (y.toNat : Int) = ((wor x y).toNat : Int) := by
  show IntKind.u32.wrap ((BitVec.ofInt 32 (x.toNat : Int) ||| BitVec.ofInt 32 (y.toNat : Int)).toNat : Int) = _
  rw [wd_bits (op := .and), wd_bits (op := .and), wd_back]; rfl
@[go_sem high] theorem wd_xor (x y : Wd) : bits .xor .u32 (x.toNat : Int) (y.toNat : Int) = ((wxor x y).toNat : Int) := by
  show IntKind.u32.wrap ((BitVec.ofInt 32 (x.toNat : Int) ^^^ BitVec.ofInt 32 (y.toNat : Int)).toNat : Int) = _
  rw [wd_bits (op := .and), wd_bits (op := .and), wd_back]; rfl
@[go_sem high] theorem wd_not (x : Wd) : Op.unary .xor (.int .u32 (x.toNat : Int)) = pure (.int .u32 ((wnot x).toNat : Int)) := by
  rw [unary_xor, intBits_xor]
  have h : bits .xor .u32 (if IntKind.u32.signed then -1 else IntKind.u32.max) (x.toNat : Int) = ((wnot x).toNat : Int) := by
    have : (if IntKind.u32.signed then (-1 : Int) else IntKind.u32.max) = ((BitVec.allOnes 32).toNat : Int) := by decide
    rw [this, wd_xor, wxor, BitVec.allOnes_xor, wnot]
  rw [h]
@[go_sem high] theorem wd_u8 (c : UInt8) : IntKind.u32.wrap (c.toNat : Int) = ((wb c).toNat : Int) := by
  rw [wrap_u32_u8, wb, BitVec.toNat_ofNat, Nat.mod_eq_of_lt (by have := c.toNat_lt; omega)]
/-- A word's lowest byte. -/
def lob (x : Wd) : UInt8 := UInt8.ofNat x.toNat
@[go_sem high] theorem wd_lob (x : Wd) : IntKind.u8.wrap (x.toNat : Int) = ((lob x).toNat : Int) := by
  rw [IntKind.wrap_u8', lob, UInt8.toNat_ofNat']; omega

end Go.Proofs.YtnkbphecabnnaaaGreatDoor
