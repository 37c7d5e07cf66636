/-
 Chapter 1 in plain words: the check sum as a register of 32 bits, and as a division of coefficients; both are one; a byte that is turned turns the sum. No program in sight.
-/
import Derived.Test.YtjdgdmlhipbaaaaGreatDoorZHashWord
namespace Go.Proofs.YtjdgdmlhipbaaaaGreatDoor
open Go.RowKit
set_option linter.unusedSimpArgs false
set_option linter.unusedVariables false

def crcPoly : Wd := 0xEDB88320#32
def crcLow (s : Wd) : Bool := s.getLsbD 0
def crcStep (s : Wd) : Wd := if crcLow s then wxor (wshr s 1) crcPoly else wshr s 1
def crcIter : Nat → Wd → Wd
 | 0, s => s
 | k + 1, s => crcIter k (crcStep s)
def crcByte (s : Wd) (c : UInt8) : Wd := crcIter 8 (wxor s (wb c))
def crcFrom (s : Wd) (bs : List UInt8) : Wd := bs.foldl crcByte s
def crcL (bs : List UInt8) : Wd := wnot (crcFrom (wnot 0#32) bs)
/-- One coefficient comes in. -/
def crcBit (s : Wd) (m : Bool) : Wd := if (crcLow s).xor m then wxor (wshr s 1) crcPoly else wshr s 1

theorem crcIter_succ (k : Nat) (s : Wd) : crcIter (k + 1) s = crcStep (crcIter k s) := by
 induction k generalizing s with
 | zero => rfl
 | succ k ih => rw [crcIter, ih]; rfl

/-- The first k bits of a word, the lowest first. -/
def bitsW (v : Wd) : Nat → List Bool
 | 0 => []
 | k + 1 => crcLow v :: bitsW (wshr v 1) k
theorem crcStep_xor (s v : Wd) : crcStep (wxor s v) = wxor (crcBit s (crcLow v)) (wshr v 1) := by
 have hl : crcLow (wxor s v) = (crcLow s).xor (crcLow v) := by simp [crcLow, wxor]
 have hs : wshr (wxor s v) 1 = wxor (wshr s 1) (wshr v 1) := by simp [wshr, wxor, BitVec.ushiftRight_xor_distrib]
 unfold crcStep crcBit
 rw [hl, hs]
 split
 ·simp only [wxor]
  rw [BitVec.xor_assoc, BitVec.xor_comm (wshr v 1), ← BitVec.xor_assoc]
 ·rfl
theorem crcIter_xor (k : Nat) (s v : Wd) : crcIter k (wxor s v) = wxor ((bitsW v k).foldl crcBit s) (v >>> k) := by
 induction k generalizing s v with
 | zero => simp [crcIter, bitsW]
 | succ k ih =>
  rw [crcIter, crcStep_xor, ih]
  simp only [bitsW, List.foldl_cons]
  congr 1
  unfold wshr
  rw [← BitVec.shiftRight_add, Nat.add_comm]
def bitsB (c : UInt8) : List Bool := bitsW (wb c) 8
theorem crcByte_bits (s : Wd) (c : UInt8) : crcByte s c = (bitsB c).foldl crcBit s := by
 unfold crcByte bitsB
 rw [crcIter_xor]
 have h : wb c >>> 8 = 0#32 := by
  apply BitVec.eq_of_toNat_eq
  rw [BitVec.toNat_ushiftRight, wb, BitVec.toNat_ofNat, Nat.shiftRight_eq_div_pow]
  have := c.toNat_lt
  simp; omega
 rw [h]
 simp [wxor]
theorem crcFrom_bits (bs : List UInt8) (s : Wd) : crcFrom s bs = (bs.flatMap bitsB).foldl crcBit s := by
 unfold crcFrom
 induction bs generalizing s with
 | nil => rfl
 | cons c r ih => rw [List.foldl_cons, List.flatMap_cons, List.foldl_append, ih, crcByte_bits]

/-! ### a byte that is turned -/
theorem low_shr (s : Wd) (i : Nat) : (wshr s 1).getLsbD i = s.getLsbD (1 + i) := by simp [wshr]
/-! ### the division -/
def powersR : List Nat := [26, 23, 22, 16, 12, 11, 10, 8, 7, 5, 4, 2, 1, 0]
def flipR (l : List Bool) (j : Nat) : List Bool := l.set j (!(l.getD j false))
def divStep (l : List Bool) (i : Nat) : List Bool := if l.getD i false then powersR.foldl (fun l p => flipR l (i + 32 - p)) l else l
def divN (l : List Bool) : Nat → List Bool
 | 0 => l
 | k + 1 => divStep (divN l k) k
theorem flipR_len (l : List Bool) (j : Nat) : (flipR l j).length = l.length := by simp [flipR]
theorem flips_len (ps : List Nat) (l : List Bool) (i : Nat) : (ps.foldl (fun l p => flipR l (i + 32 - p)) l).length = l.length := by
 induction ps generalizing l with
 | nil => rfl
 | cons p r ih => rw [List.foldl_cons, ih, flipR_len]
theorem divStep_len (l : List Bool) (i : Nat) : (divStep l i).length = l.length := by
 unfold divStep
 split
 ·exact flips_len _ _ _
 ·rfl
theorem divN_len (l : List Bool) (k : Nat) : (divN l k).length = l.length := by
 induction k with
 | zero => rfl
 | succ k ih => rw [divN, divStep_len, ih]
theorem flipR_at (l : List Bool) (j m : Nat) (hj : j < l.length) : (flipR l j).getD m false = (l.getD m false).xor (decide (m = j)) := by
 unfold flipR
 by_cases h : m = j
 ·subst h
  simp [List.getD_eq_getElem?_getD, List.getElem?_set, hj]
 ·have h' : ¬ j = m := fun e => h e.symm
  simp [List.getD_eq_getElem?_getD, List.getElem?_set, h, h']
theorem flips_at (ps : List Nat) (hp : ∀ p ∈ ps, p < 32) (l : List Bool) (i m : Nat) (hl : i + 32 < l.length) :
  (ps.foldl (fun l p => flipR l (i + 32 - p)) l).getD m false = (l.getD m false).xor (ps.foldl (fun b p => b.xor (decide (m = i + 32 - p))) false) := by
 have gen : ∀ (ps : List Nat) (b : Bool) (g : Nat → Bool), ps.foldl (fun b p => b.xor (g p)) b = b.xor (ps.foldl (fun b p => b.xor (g p)) false) := by
  intro ps
  induction ps with
  | nil => intro b g; simp
  | cons p r ih =>
   intro b g
   rw [List.foldl_cons, List.foldl_cons, ih (b.xor (g p)), ih (Bool.xor false (g p))]
   cases b <;> cases g p <;> simp
 induction ps generalizing l with
 | nil => simp
 | cons p r ih =>
  have hp0 := hp p (by simp)
  rw [List.foldl_cons, ih (fun q hq => hp q (by simp [hq])) _ (by rw [flipR_len]; exact hl), flipR_at _ _ _ (by omega), List.foldl_cons, gen r (Bool.xor false _)]
  cases (l.getD m false) <;> cases decide (m = i + 32 - p) <;> simp
theorem poly_bits : ∀ j, j < 32 → crcPoly.getLsbD j = powersR.foldl (fun b p => b.xor (decide (j = 31 - p))) false := by decide
theorem powers_lt : ∀ p ∈ powersR, p < 32 := by decide
theorem fold_shift (i j : Nat) (ps : List Nat) (hp : ∀ p ∈ ps, p < 32) : ∀ b : Bool, ps.foldl (fun b p => b.xor (decide (i + 1 + j = i + 32 - p))) b = ps.foldl (fun b p => b.xor (decide (j = 31 - p))) b := by
 induction ps with
 | nil => intro b; rfl
 | cons p r ih =>
  intro b
  have h0 := hp p (by simp)
  rw [List.foldl_cons, List.foldl_cons, ih (fun q hq => hp q (by simp [hq]))]
  have e : decide (i + 1 + j = i + 32 - p) = decide (j = 31 - p) := decide_eq_decide.2 (by omega)
  rw [e]
theorem fold_far (i m : Nat) (h : i + 32 < m) (ps : List Nat) : ∀ b : Bool, ps.foldl (fun b p => b.xor (decide (m = i + 32 - p))) b = b := by
 induction ps with
 | nil => intro b; rfl
 | cons p r ih =>
  intro b
  rw [List.foldl_cons, ih]
  have : ¬ m = i + 32 - p := by omega
  simp [this]
/-- What the register says of the list after i steps: the flips so far. -/
def RegAt (L l : List Bool) (i : Nat) (d : Wd) : Prop := ∀ m, i ≤ m → m < L.length → l.getD m false = (L.getD m false).xor (if m < i + 32 then d.getLsbD (m - i) else false)
theorem reg_step {L l : List Bool} {i : Nat} {d : Wd} (hl : l.length = L.length) (hi : i + 32 < L.length) (h : RegAt L l i d) : RegAt L (divStep l i) (i + 1) (crcBit d (L.getD i false)) := by
 have h0 := h i (Nat.le_refl _) (by omega)
 rw [if_pos (by omega), Nat.sub_self] at h0
 have hlow : l.getD i false = (crcLow d).xor (L.getD i false) := by rw [h0, crcLow, Bool.xor_comm]
 intro m hm hm2
 have h1 := h m (by omega) hm2
 unfold divStep crcBit
 rw [← hlow]
 by_cases hb : l.getD i false = true
 ·rw [if_pos hb, if_pos hb, flips_at _ powers_lt _ _ _ (by omega), h1]
  by_cases hm3 : m < i + 1 + 32
  ·obtain ⟨j, rfl⟩ : ∃ j, m = i + 1 + j := ⟨m - (i + 1), by omega⟩
   rw [if_pos hm3, show i + 1 + j - (i + 1) = j by omega, fold_shift i j _ powers_lt, ← poly_bits j (by omega)]
   simp only [wxor, BitVec.getLsbD_xor, low_shr]
   rw [Bool.xor_assoc]
   congr 1
   congr 1
   by_cases hm4 : i + 1 + j < i + 32
   ·rw [if_pos hm4, show i + 1 + j - i = 1 + j by omega]
   ·rw [if_neg hm4, BitVec.getLsbD_of_ge _ _ (by omega)]
  ·rw [if_neg hm3, if_neg (by omega), fold_far i m (by omega)]
   simp
 ·rw [if_neg hb, if_neg hb, h1]
  by_cases hm3 : m < i + 1 + 32
  ·rw [if_pos hm3, low_shr]
   congr 1
   by_cases hm4 : m < i + 32
   ·rw [if_pos hm4, show m - i = 1 + (m - (i + 1)) by omega]
   ·rw [if_neg hm4, BitVec.getLsbD_of_ge _ _ (by omega)]
  ·rw [if_neg hm3, if_neg (by omega)]
theorem reg_all {L : List Bool} {d : Wd} (l0 : List Bool) (hl : l0.length = L.length) (h : RegAt L l0 0 d) : ∀ k, k + 32 ≤ L.length → RegAt L (divN l0 k) k ((L.take k).foldl crcBit d) := by
 intro k
 induction k with
 | zero => intro _; simpa [divN] using h
 | succ k ih =>
  intro hk
  have := reg_step (by rw [divN_len, hl]) (by omega) (ih (by omega))
  rw [List.take_succ_eq_append_getElem (by omega), List.foldl_append]
  simp only [List.foldl_cons, List.foldl_nil]
  rw [List.getD_eq_getElem?_getD, List.getElem?_eq_getElem (by omega)] at this
  exact this
/-- The sum that is left: bit k is the k-th of the last 32, turned. -/
def sumBits (l : List Bool) : Nat → Wd → Wd
 | 0, s => s
 | k + 1, s => sumBits l k (if l.getD (l.length - 32 + k) false then s + s else s + s + 1#32)
def messL (bs : List UInt8) : List Bool := bs.flatMap bitsB ++ List.replicate 32 false
def flip32 (l : List Bool) : Nat → List Bool
 | 0 => l
 | k + 1 => flipR (flip32 l k) k
theorem flip32_len (l : List Bool) (k : Nat) : (flip32 l k).length = l.length := by
 induction k with
 | zero => rfl
 | succ k ih => rw [flip32, flipR_len, ih]
theorem flip32_at (l : List Bool) (k m : Nat) (hk : k ≤ l.length) : (flip32 l k).getD m false = (l.getD m false).xor (decide (m < k)) := by
 induction k with
 | zero => simp [flip32]
 | succ k ih =>
  rw [flip32, flipR_at _ _ _ (by rw [flip32_len]; omega), ih (by omega)]
  by_cases h1 : m < k
  ·have : ¬ m = k := by omega
   have h2 : m < k + 1 := by omega
   simp [h1, this, h2]
  ·by_cases h2 : m = k
   ·subst h2; simp
   ·have h3 : ¬ m < k + 1 := by omega
    simp [h1, h2, h3]
theorem mess_len (bs : List UInt8) : (messL bs).length = bs.length * 8 + 32 := by
 unfold messL
 rw [List.length_append, List.length_replicate]
 congr 1
 induction bs with
 | nil => rfl
 | cons c r ih => rw [List.flatMap_cons, List.length_append, ih]; simp [bitsB, bitsW]; omega
theorem ones_at : ∀ m, m < 32 → (wnot 0#32).getLsbD m = true := by decide
/-- What the division leaves, bit by bit. -/
theorem div_bits (bs : List UInt8) (j : Nat) (hj : j < 32) : (divN (flip32 (messL bs) 32) (bs.length * 8)).getD (bs.length * 8 + j) false = !((crcL bs).getLsbD j) := by
 have hlen := mess_len bs
 have h0 : RegAt (messL bs) (flip32 (messL bs) 32) 0 (wnot 0#32) := by
  intro m _ hm
  rw [flip32_at _ _ _ (by omega)]
  congr 1
  by_cases h : m < 32
  ·rw [Nat.zero_add, if_pos h, Nat.sub_zero, ones_at m h]
   simp [h]
  ·simp [h]
 have h1 := reg_all _ (flip32_len _ _) h0 (bs.length * 8) (by omega)
 have h2 := h1 (bs.length * 8 + j) (by omega) (by omega)
 rw [if_pos (by omega), show bs.length * 8 + j - bs.length * 8 = j by omega] at h2
 have hz : (messL bs).getD (bs.length * 8 + j) false = false := by
  have hl : (bs.flatMap bitsB).length = bs.length * 8 := by have := hlen; unfold messL at this; rw [List.length_append, List.length_replicate] at this; omega
  unfold messL
  rw [List.getD_eq_getElem?_getD, List.getElem?_append_right (by omega), List.getElem?_replicate]
  split <;> rfl
 have ht : (messL bs).take (bs.length * 8) = bs.flatMap bitsB := by
  have hl : (bs.flatMap bitsB).length = bs.length * 8 := by have := hlen; unfold messL at this; rw [List.length_append, List.length_replicate] at this; omega
  unfold messL
  rw [← hl, List.take_left]
 have hn : ∀ x : Wd, (wnot x).getLsbD j = !(x.getLsbD j) := fun x => by simp [wnot, hj]
 rw [h2, hz, ht, ← crcFrom_bits, crcL, hn, Bool.not_not, Bool.false_xor]
end Go.Proofs.YtjdgdmlhipbaaaaGreatDoor
