/-
  Layer 3's reference: Number, Bytes, Written. Conditions: numbers below 2^63, texts of at most 2^49 bytes.
-/
import Derived.Test.YtoabhjngcajmiaaDoorPackItems
import Derived.Deep.RegionHeld3
namespace Go.Proofs.YtoabhjngcajmiaaDoor
open Go.RowKit
set_option linter.unusedSimpArgs false
set_option linter.unusedVariables false

set_option maxHeartbeats 400000 in
theorem refNumber_any (n : Int) (hn : n < 9223372036854775808) (w : World) :
    Calls Tryd.prog 19 #[.int .i64 n] w fun e w' => e = .returned (Str (numB n.toNat)) ∧ Step [] [] w w' := by
  have kc := fun (w : World) (x : Int) (T : TypeId) (h0 : 0 ≤ x) (h1 : x < 256) => run_str_one (P := Tryd.prog) 31 9 5 Tryd.underlying31 Tryd.underlying5 Tryd.underlying9 w x T h0 h1
  have hN : Hid (n.toNat < 256 ^ 8) := by show n.toNat < 256 ^ 8; omega
  go_enter Tryd.func19, Tryd.ntmps19
  go_wp2
  go_loopw [0, 3, 4] (fun m s k wr => ∃ (m' k' : Nat) (low : List UInt8), ((0 ≤ n ∧ m = .int .i64 m') ∨ (n ≤ 0 ∧ m = .int .i64 n ∧ m' = 0)) ∧ s = Str low ∧ k = .int .i64 k' ∧ k' ≤ 8 ∧ low.length = k' ∧ (m' : Int) ≤ n.toNat ∧ Hid (be n.toNat = be m' ++ low ∧ m' < 256 ^ (8 - k') ∧ Step [] [] w wr))
    (fun m _ _ _ => (intOf m).toNat)
  case atStart =>
    refine ⟨n.toNat, 0, [], ?_, rfl, rfl, by omega, rfl, by omega, by simp, hN.out, Step.refl _ _⟩
    by_cases h : 0 ≤ n
    · exact .inl ⟨h, by congr 1; omega⟩
    · exact .inr ⟨by omega, rfl, by omega⟩
  case round =>
    obtain ⟨m, k, low, hm, rfl, rfl, hk8, hlow, hmn, H⟩ := hrel
    have hl1 : low.length + 1 ≤ 9223372036854775807 := by omega
    rcases hm with ⟨h0, rfl⟩ | ⟨h0, rfl, rfl⟩
    · by_cases hp : 0 < m
      · have m0 : 0 ≤ (m : Int) % 256 := by omega
        have m1 : (m : Int) % 256 < 256 := by omega
        obtain ⟨q1, q2, q3⟩ := H.out
        have hk : k < 8 := by
          rcases Nat.lt_or_ge k 8 with h | h
          · exact h
          · have : k = 8 := by omega
            subst this
            simp at q2
            omega
        clear q1 q2 q3
        go_wp2_with fail
        go_roundw
        case rel =>
          obtain ⟨q1, q2, q3⟩ := H.out
          refine ⟨m / 256, k + 1, UInt8.ofNat m :: low, .inl ⟨h0, by go_num⟩, ?_, by go_num, by omega, by simp [hlow], by omega, ?_, ?_, q3.alloc _⟩
          · rw [show UInt8.ofNat (m % 256) = UInt8.ofNat m from by apply UInt8.toNat_inj.1; simp [UInt8.toNat_ofNat']]
          · rw [q1, be_pos m hp]; simp
          · have h8 : 8 - k = (8 - (k + 1)) + 1 := by omega
            rw [h8, Nat.pow_succ] at q2
            omega
        case measure => simp [intOf]; omega
      · obtain rfl : m = 0 := by omega
        have k0 : 0 ≤ (k : Int) := by omega
        have k1 : (k : Int) < 256 := by omega
        go_wp2_with fail
        go_ret
        obtain ⟨q1, q2, q3⟩ := H.out
        rw [be_zero, List.nil_append] at q1
        refine ⟨?_, q3.alloc _⟩
        rw [numB, q1, hlow]
        rfl
    · have k0 : 0 ≤ (k : Int) := by omega
      have k1 : (k : Int) < 256 := by omega
      have hlt : ¬ 0 < n := by omega
      go_wp2_with fail
      go_ret
      obtain ⟨q1, q2, q3⟩ := H.out
      rw [be_zero, List.nil_append] at q1
      refine ⟨?_, q3.alloc _⟩
      rw [numB, q1, hlow]
      rfl

/-- A thing's bytes. -/
def itB (x : It) : List UInt8 := if x.k = 1 then numB x.s.length ++ x.s else if x.k = 2 then numB (if x.b then 1 else 0) else numB x.n.toNat

theorem itB_len (x : It) (hx : x.ok) : (itB x).length ≤ 562949953421321 := by
  obtain ⟨h1, h2⟩ := hx
  unfold itB
  split
  · have := numB_len x.s.length (by omega)
    simp; omega
  · split
    · have := numB_len (if x.b then 1 else 0) (by split <;> omega)
      omega
    · have := numB_len x.n.toNat (by omega)
      omega

/-- What the reference writes: the bytes, or the fault's number. -/
def written (out : List UInt8) : List It → List UInt8 × Int
  | [] => (out, 0)
  | x :: l => if x.k = 0 ∧ (x.n < 0 ∨ 4611686018427387903 < x.n) then ([], 1) else if 2097152 < out.length + (itB x).length then ([], 2) else written (out ++ itB x) l

def WrittenPost (l : List It) (w : World) (e : Ending) (w' : World) : Prop := e = .returned (.tuple #[Str (written [] l).1, .int .i64 (written [] l).2]) ∧ Step [] [] w w'

end Go.Proofs.YtoabhjngcajmiaaDoor
