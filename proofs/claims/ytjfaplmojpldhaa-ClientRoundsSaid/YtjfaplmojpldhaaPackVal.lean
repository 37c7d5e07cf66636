/-
  The plain side of layer 3: bytes as a number, the order of numbers' bytes. No condition.
-/
import Derived.Test.YtjfaplmojpldhaaPackPlain
import Derived.Test.YtjfaplmojpldhaaPackR
namespace Go.Proofs.Ytjfaplmojpldhaa
set_option linter.unusedSimpArgs false
set_option linter.unusedVariables false
set_option maxRecDepth 100000

theorem foldl_val (l : List UInt8) (n : Nat) : l.foldl (fun n c => n * 256 + c.toNat) n = n * 256 ^ l.length + val l := by
  induction l generalizing n with
  | nil => simp [val]
  | cons c l ih =>
    rw [List.foldl_cons, ih]
    simp only [val, List.foldl_cons] at ih ⊢
    rw [ih (0 * 256 + c.toNat), List.length_cons, Nat.pow_succ, Nat.add_mul, Nat.mul_assoc, Nat.mul_comm 256]
    simp [Nat.add_assoc]
theorem val_cons (c : UInt8) (l : List UInt8) : val (c :: l) = c.toNat * 256 ^ l.length + val l := by
  have := foldl_val l c.toNat
  simpa [val] using this

theorem val_be (n : Nat) : val (be n) = n := by
  induction n using Nat.strongRecOn with
  | _ n ih =>
    by_cases h : n = 0
    · subst h; rw [be_zero]; rfl
    · rw [be_pos n (by omega), val_snoc, ih (n / 256) (by omega)]
      have : (UInt8.ofNat n).toNat = n % 256 := by simp [UInt8.toNat_ofNat']
      omega
theorem lt_be (n : Nat) : n < 256 ^ (be n).length := by have := val_lt (be n); rwa [val_be] at this
theorem be_mono (a b : Nat) (h : a ≤ b) : (be a).length ≤ (be b).length := be_len _ a (Nat.lt_of_le_of_lt h (lt_be b))
theorem be_inj (a b : Nat) (h : be a = be b) : a = b := by rw [← val_be a, h, val_be]
theorem be_len8 (n : Nat) (h : n < 18446744073709551616) : (be n).length ≤ 8 := be_len 8 n (by omega)

theorem less_val (x y : List UInt8) (h : x.length = y.length) : Op.bytesLess x y = decide (val x < val y) := by
  induction x generalizing y with
  | nil =>
    cases y with
    | nil => simp [Op.bytesLess, val]
    | cons b y => simp at h
  | cons a x ih =>
    cases y with
    | nil => simp at h
    | cons b y =>
      simp at h
      simp only [Op.bytesLess, ih y h, val_cons, h]
      have hx : val x < 256 ^ y.length := by rw [← h]; exact val_lt x
      have hy := val_lt y
      generalize 256 ^ y.length = p at *
      rw [Bool.eq_iff_iff]
      simp only [Bool.or_eq_true, decide_eq_true_eq, Bool.and_eq_true, beq_iff_eq, UInt8.lt_iff_toNat_lt]
      constructor
      · rintro (h1 | ⟨rfl, h1⟩)
        · have : (a.toNat + 1) * p ≤ b.toNat * p := Nat.mul_le_mul_right _ h1
          rw [Nat.add_mul] at this
          omega
        · omega
      · intro h1
        rcases Nat.lt_trichotomy a.toNat b.toNat with h2 | h2 | h2
        · exact .inl h2
        · exact .inr ⟨UInt8.toNat_inj.1 h2, by rw [h2] at h1; omega⟩
        · have : (b.toNat + 1) * p ≤ a.toNat * p := Nat.mul_le_mul_right _ h2
          rw [Nat.add_mul] at this
          omega

theorem less_num (a b : Nat) (ha : a < 18446744073709551616) (hb : b < 18446744073709551616) : Op.bytesLess (numB a) (numB b) = decide (a < b) := by
  have la := be_len8 a ha
  have lb := be_len8 b hb
  simp only [numB, Op.bytesLess]
  have e1 : (UInt8.ofNat (be a).length < UInt8.ofNat (be b).length) = ((be a).length < (be b).length) := by
    rw [UInt8.lt_iff_toNat_lt]; simp [UInt8.toNat_ofNat']
    rw [Nat.mod_eq_of_lt (by omega), Nat.mod_eq_of_lt (by omega)]
  have e2 : (UInt8.ofNat (be a).length == UInt8.ofNat (be b).length) = decide ((be a).length = (be b).length) := by
    rw [Bool.eq_iff_iff, beq_iff_eq, decide_eq_true_eq, ← UInt8.toNat_inj]
    simp [UInt8.toNat_ofNat']
    rw [Nat.mod_eq_of_lt (by omega), Nat.mod_eq_of_lt (by omega)]
  simp only [e1, e2]
  rcases Nat.lt_trichotomy (be a).length (be b).length with h | h | h
  · have : a < b := by
      rcases Nat.lt_or_ge a b with h' | h'
      · exact h'
      · have := be_mono b a h'; omega
    simp [h, this]
  · rw [less_val _ _ h, val_be, val_be]
    simp [h]
  · have : ¬ a < b := fun h' => by have := be_mono a b (by omega); omega
    simp [this]
    omega

theorem numB_inj (a b : Nat) (h : numB a = numB b) : a = b := be_inj a b (by simp only [numB, List.cons.injEq] at h; exact h.2)
theorem eq_num (a b : Nat) : (numB a == numB b) = decide (a = b) := by
  rw [Bool.eq_iff_iff, beq_iff_eq, decide_eq_true_eq]
  exact ⟨numB_inj a b, fun h => by rw [h]⟩
end Go.Proofs.Ytjfaplmojpldhaa
