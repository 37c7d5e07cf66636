/-
  What a digest is, on words and lists, with no program in sight. No condition.
-/
import Derived.Test.YtdiacfbflbenoaaHashWord
namespace Go.Proofs.Ytdiacfbflbenoaa
open Go.RowKit
set_option linter.unusedSimpArgs false
set_option linter.unusedVariables false

/-- The eight words. -/
structure S8 where
  a : Wd
  b : Wd
  c : Wd
  d : Wd
  e : Wd
  f : Wd
  g : Wd
  h : Wd
/-- .. as cells. -/
def S8.vals (s : S8) : List Value := [wv s.a, wv s.b, wv s.c, wv s.d, wv s.e, wv s.f, wv s.g, wv s.h]
theorem S8.vals_len (s : S8) : s.vals.length = 8 := rfl

def iv : S8 := ⟨1779033703, 3144134277, 1013904242, 2773480762, 1359893119, 2600822924, 528734635, 1541459225⟩

def kc : List Wd := [
  0x428a2f98, 0x71374491, 0xb5c0fbcf, 0xe9b5dba5, 0x3956c25b, 0x59f111f1, 0x923f82a4, 0xab1c5ed5,
  0xd807aa98, 0x12835b01, 0x243185be, 0x550c7dc3, 0x72be5d74, 0x80deb1fe, 0x9bdc06a7, 0xc19bf174,
  0xe49b69c1, 0xefbe4786, 0x0fc19dc6, 0x240ca1cc, 0x2de92c6f, 0x4a7484aa, 0x5cb0a9dc, 0x76f988da,
  0x983e5152, 0xa831c66d, 0xb00327c8, 0xbf597fc7, 0xc6e00bf3, 0xd5a79147, 0x06ca6351, 0x14292967,
  0x27b70a85, 0x2e1b2138, 0x4d2c6dfc, 0x53380d13, 0x650a7354, 0x766a0abb, 0x81c2c92e, 0x92722c85,
  0xa2bfe8a1, 0xa81a664b, 0xc24b8b70, 0xc76c51a3, 0xd192e819, 0xd6990624, 0xf40e3585, 0x106aa070,
  0x19a4c116, 0x1e376c08, 0x2748774c, 0x34b0bcb5, 0x391c0cb3, 0x4ed8aa4a, 0x5b9cca4f, 0x682e6ff3,
  0x748f82ee, 0x78a5636f, 0x84c87814, 0x8cc70208, 0x90befffa, 0xa4506ceb, 0xbef9a3f7, 0xc67178f2]
theorem kc_len : kc.length = 64 := by decide

def sg0 (x : Wd) : Wd := wxor (wxor (rotr x 7) (rotr x 18)) (wshr x 3)
def sg1 (x : Wd) : Wd := wxor (wxor (rotr x 17) (rotr x 19)) (wshr x 10)
def bs0 (x : Wd) : Wd := wxor (wxor (rotr x 2) (rotr x 13)) (rotr x 22)
def bs1 (x : Wd) : Wd := wxor (wxor (rotr x 6) (rotr x 11)) (rotr x 25)
def ch (e f g : Wd) : Wd := wxor (wand e f) (wand (wnot e) g)
def maj (a b c : Wd) : Wd := wxor (wxor (wand a b) (wand a c)) (wand b c)

def at8 (b : List UInt8) (j : Nat) : UInt8 := b.getD j 0
def wat (l : List Wd) (j : Nat) : Wd := l.getD j 0
theorem at8_eq (b : List UInt8) (j : Nat) (h : j < b.length) : b[j]? = some (at8 b j) := by simp [at8, h]
theorem wat_eq (l : List Wd) (j : Nat) (h : j < l.length) : l[j]? = some (wat l j) := by simp [wat, h]
/-- Word `i` of a block. -/
def word (b : List UInt8) (i : Nat) : Wd := wor (wor (wor (wshl (wb (at8 b (4 * i))) 24) (wshl (wb (at8 b (4 * i + 1))) 16)) (wshl (wb (at8 b (4 * i + 2))) 8)) (wb (at8 b (4 * i + 3)))
def words (b : List UInt8) : List Wd := (List.range 16).map (word b)
theorem words_len (b : List UInt8) : (words b).length = 16 := by simp [words]
theorem words_get (b : List UInt8) (i : Nat) (h : i < 16) : (words b)[i]? = some (word b i) := by simp [words, h]

/-- The next word of the schedule. -/
def next (l : List Wd) : Wd := wadd (wadd (wadd (wat l (l.length - 16)) (sg0 (wat l (l.length - 15)))) (wat l (l.length - 7))) (sg1 (wat l (l.length - 2)))
def sched (b : List UInt8) : Nat → List Wd
  | 0 => words b
  | k + 1 => sched b k ++ [next (sched b k)]
theorem sched_len (b : List UInt8) (k : Nat) : (sched b k).length = 16 + k := by
  induction k with
  | zero => simp [sched, words_len]
  | succ k ih => simp [sched, ih]; omega

def round (s : S8) (k w : Wd) : S8 :=
  let t := wadd (wadd (wadd (wadd s.h (bs1 s.e)) (ch s.e s.f s.g)) k) w
  let u := wadd (bs0 s.a) (maj s.a s.b s.c)
  ⟨wadd t u, s.a, s.b, s.c, wadd s.d t, s.e, s.f, s.g⟩
def roundsTo (w : List Wd) (s : S8) : Nat → S8
  | 0 => s
  | k + 1 => round (roundsTo w s k) (wat kc k) (wat w k)
def S8.add (s t : S8) : S8 := ⟨wadd s.a t.a, wadd s.b t.b, wadd s.c t.c, wadd s.d t.d, wadd s.e t.e, wadd s.f t.f, wadd s.g t.g, wadd s.h t.h⟩
/-- A block of 64 bytes. -/
def comp (s : S8) (b : List UInt8) : S8 := s.add (roundsTo (sched b 48) s 64)
/-- So many blocks, from the beginning of a text. -/
def comps (s : S8) (m : List UInt8) : Nat → S8
  | 0 => s
  | k + 1 => comps (comp s (m.take 64)) (m.drop 64) k

def wdbytes (x : Wd) : List UInt8 := [lob (wshr x 24), lob (wshr x 16), lob (wshr x 8), lob x]
def S8.bytes (s : S8) : List UInt8 := wdbytes s.a ++ wdbytes s.b ++ wdbytes s.c ++ wdbytes s.d ++ wdbytes s.e ++ wdbytes s.f ++ wdbytes s.g ++ wdbytes s.h
theorem S8.bytes_len (s : S8) : s.bytes.length = 32 := by simp [S8.bytes, wdbytes]
/-- A length as eight bytes, the highest first. -/
def len8 (n : Nat) : List UInt8 := [UInt8.ofNat (n / 72057594037927936), UInt8.ofNat (n / 281474976710656), UInt8.ofNat (n / 1099511627776), UInt8.ofNat (n / 4294967296), UInt8.ofNat (n / 16777216), UInt8.ofNat (n / 65536), UInt8.ofNat (n / 256), UInt8.ofNat n]
/-- So many noughts come behind a text of `n` bytes and the byte 128. -/
def noughts (n : Nat) : Nat := (119 - n % 64) % 64
def pad (n : Nat) : List UInt8 := 128 :: (List.replicate (noughts n) 0 ++ len8 (8 * n))
theorem pad_len (n : Nat) : (n + (pad n).length) % 64 = 0 := by simp [pad, noughts, len8]; omega
/-- The digest. -/
def sha (s : List UInt8) : List UInt8 := (comps iv (s ++ pad s.length) ((s ++ pad s.length).length / 64)).bytes

theorem sha_len (s : List UInt8) : (sha s).length = 32 := S8.bytes_len _
theorem sha_abc : sha [97, 98, 99] = [0xba, 0x78, 0x16, 0xbf, 0x8f, 0x01, 0xcf, 0xea, 0x41, 0x41, 0x40, 0xde, 0x5d, 0xae, 0x22, 0x23, 0xb0, 0x03, 0x61, 0xa3, 0x96, 0x17, 0x7a, 0x9c, 0xb4, 0x10, 0xff, 0x61, 0xf2, 0x00, 0x15, 0xad] := by decide +kernel

theorem comps_add (s : S8) (m r : List UInt8) (k : Nat) (h : m.length = 64 * k) (j : Nat) : comps s (m ++ r) (k + j) = comps (comps s m k) r j := by
  induction k generalizing s m with
  | zero =>
    have : m = [] := List.eq_nil_of_length_eq_zero (by omega)
    subst this
    simp [comps]
  | succ k ih =>
    rw [show k + 1 + j = k + j + 1 by omega]
    simp only [comps]
    rw [List.take_append_of_le_length (by omega), List.drop_append_of_le_length (by omega), ih _ _ (by simp; omega)]
theorem comps_app (s : S8) (m r : List UInt8) (k : Nat) (h : 64 * k ≤ m.length) : comps s (m ++ r) k = comps s m k := by
  induction k generalizing s m with
  | zero => rfl
  | succ k ih =>
    simp only [comps]
    rw [List.take_append_of_le_length (by omega), List.drop_append_of_le_length (by omega), ih _ _ (by simp; omega)]
end Go.Proofs.Ytdiacfbflbenoaa
