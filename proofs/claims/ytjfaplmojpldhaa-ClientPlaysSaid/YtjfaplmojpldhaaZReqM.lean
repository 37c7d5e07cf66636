/-
 The reference's has: does a kind have a field? Condition: the kind is one, or none of them.
-/
import Derived.Test.YtjfaplmojpldhaaZReqD
namespace Go.Proofs.Ytjfaplmojpldhaa
open Go.RowKit
set_option linter.unusedSimpArgs false
set_option linter.unusedVariables false
set_option maxRecDepth 100000

def fldQ : List (List UInt8) := [[], [78, 87], [84], [82], [78, 81], [78, 81], [78, 79, 87, 83], [78, 87, 83], [78], [78, 79], [78], [78, 71], [78, 80], [78, 79], [78, 79]]
def hasL (k : Int) (c : UInt8) : Bool := isK k && (fldQ.getD k.toNat []).contains c
theorem has_no (k : Int) (c : UInt8) (w : World) (hk : isK k = false) : Calls Try.prog 74 #[.int .i64 k, .int .u8 (c.toNat : Int)] w fun e w' => e = .returned (.bool (hasL k c)) ∧ Step [] [] w w' := by
 have hz : hasL k c = false := by simp [hasL, hk]
 by_cases h1 : k < 1
 ·go_enter Try.func74, Try.ntmps74
  go_wp2_with fail
  go_ret
  exact ⟨by first | rfl | (rw [hz]; rfl), ((Step.refl [] w).alloc _)⟩
 ·have h2 : 14 < k := by simp [isK] at hk; omega
  go_enter Try.func74, Try.ntmps74
  go_wp2_with fail
  go_ret
  exact ⟨by first | rfl | (rw [hz]; rfl), ((Step.refl [] w).alloc _)⟩
set_option maxHeartbeats 4000000 in
theorem has_yes (k : Nat) (c : UInt8) (w : World) (h1 : 1 ≤ k) (h2 : k ≤ 14) : Calls Try.prog 74 #[.int .i64 (k : Int), .int .u8 (c.toNat : Int)] w fun e w' => e = .returned (.bool (hasL k c)) ∧ Step [] [] w w' := by
 obtain ⟨t, ht⟩ : ∃ t, fldQ[k]? = some t := ⟨_, List.getElem?_eq_getElem (show k < fldQ.length by simp [fldQ]; omega)⟩
 have hz : hasL k c = t.contains c := by
  have : isK (k : Int) = true := by simp [isK]; omega
  rw [hasL, this, Bool.true_and, Int.toNat_natCast, List.getD_eq_getElem?_getD, ht]
  rfl
 have HZ := Lib.hid hz
 have hl : t.length ≤ 4 := by
  have hm := List.mem_of_getElem? ht
  simp only [fldQ, List.mem_cons, List.not_mem_nil, or_false] at hm
  rcases hm with rfl | rfl | rfl | rfl | rfl | rfl | rfl | rfl | rfl | rfl | rfl | rfl | rfl | rfl | rfl <;> simp
 have HT := Lib.hid ht
 clear ht hz
 go_enter Try.func74, Try.ntmps74
 go_upto_region 4 with fail
 obtain ⟨V, hV⟩ : ∃ V, V = w.alloc (.cells (fldQ.map Str).toArray 9) := ⟨_, rfl⟩
 obtain ⟨b, hb⟩ : ∃ b, b = w.heap.size := ⟨_, rfl⟩
 have H0 : Hid (Blk V b 9 (fldQ.map Str).toArray ∧ Step [] [] w V) := Lib.hid (by rw [hV, hb]; exact ⟨Blk.new w _ _, (Step.refl [] w).alloc _⟩)
 change Code.wp _ _ _ _ (w.alloc (.cells (fldQ.map Str).toArray 9))
 rw [← hV, ← hb]
 clear hV hb
 have hc : V.cell? ⟨b, k, none⟩ = some (Str t) := by
  have := H0.out.1.cell k
  rw [this]
  simp [HT.out]
 have hbl := H0.out.1.lt
 go_wp2_with fail
 go_loopw [6] (fun i W => ∃ n : Nat, i = .int .i64 n ∧ n ≤ t.length ∧ Hid (W = V ∧ (t.take n).contains c = false)) (fun i _ => t.length - (intOf i).toNat)
 case atStart => exact ⟨0, rfl, by omega, Lib.hid ⟨rfl, by simp⟩⟩
 case round =>
  obtain ⟨n, rfl, hn, HW⟩ := hrel
  obtain ⟨e, hno⟩ := HW.out
  subst e
  clear HW
  have HNO := Lib.hid hno
  clear hno
  by_cases hlt : n < t.length
  ·have hlt' : (n : Int) < t.length := by omega
   obtain ⟨d, hd⟩ : ∃ d, t[n]? = some d := ⟨_, List.getElem?_eq_getElem hlt⟩
   have htk : (t.take (n + 1)).contains c = (d == c) := by
    have q := HNO.out
    rw [List.take_add_one, hd]
    simp only [Option.toList_some, List.contains_eq_any_beq, List.any_append, List.any_cons, List.any_nil, Bool.or_false] at q ⊢
    rw [q, Bool.false_or, Bool.beq_comm]
   have hd' : t[n] = d := (List.getElem?_eq_some_iff.1 hd).2
   by_cases hdc : d = c
   ·subst hdc
    have hfin : t.contains d = true := List.contains_iff_mem.2 (List.mem_of_getElem? hd)
    have HF := Lib.hid hfin
    clear htk hfin hd
    have hE : ((d.toNat : Int) == (d.toNat : Int)) = true := by simp
    go_wp2_with fail
    go_ret
    exact ⟨by rw [HZ.out, HF.out]; rfl, H0.out.2⟩
   ·have hE : ((d.toNat : Int) == (c.toNat : Int)) = false := by
     simp only [beq_eq_false_iff_ne, ne_eq]
     intro e
     exact hdc (UInt8.toNat_inj.1 (by omega))
    have hN : ¬ (d.toNat : Int) = (c.toNat : Int) := by simpa using hE
    have htk2 : (t.take (n + 1)).contains c = false := by rw [htk]; simpa using hdc
    have HF := Lib.hid htk2
    clear htk htk2 hd hdc
    have hw1 : wrap64 ((n : Int) + 1) = (n : Int) + 1 := by first | exact IntWalk.wrap64_in _ (by omega) | simp [wrap64]; omega
    go_wp2_with fail
    refine ⟨⟨n + 1, by push_cast; rfl, by omega, Lib.hid ⟨trivial, HF.out⟩⟩, ?_⟩
    simp only [intOf]
    omega
  ·have hlt' : ¬ (n : Int) < t.length := by omega
   have hfin : t.contains c = false := by
    have q := HNO.out
    rwa [List.take_of_length_le (by omega)] at q
   go_wp2_with fail
   go_ret
   exact ⟨by rw [HZ.out, hfin]; rfl, H0.out.2⟩
theorem has_any (k : Int) (c : UInt8) (w : World) : Calls Try.prog 74 #[.int .i64 k, .int .u8 (c.toNat : Int)] w fun e w' => e = .returned (.bool (hasL k c)) ∧ Step [] [] w w' := by
 cases h : isK k with
 | false => exact has_no k c w h
 | true =>
  have h' : 1 ≤ k ∧ k ≤ 14 := by simpa [isK] using h
  obtain ⟨n, rfl⟩ := Int.eq_ofNat_of_zero_le (show 0 ≤ k by omega)
  exact has_yes n c w (by omega) (by omega)
theorem hasN_call (k : Int) (w : World) (hk : isK k = true) : Calls Try.prog 74 #[.int .i64 k, .int .u8 78] w fun e w' => e = .returned (.bool (hasN k)) ∧ Step [] [] w w' := by
 have e : hasL k 78 = (hasN k) := by
  have h' : k = 1 ∨ k = 2 ∨ k = 3 ∨ k = 4 ∨ k = 5 ∨ k = 6 ∨ k = 7 ∨ k = 8 ∨ k = 9 ∨ k = 10 ∨ k = 11 ∨ k = 12 ∨ k = 13 ∨ k = 14 := by simp [isK] at hk; omega
  rcases h' with rfl | rfl | rfl | rfl | rfl | rfl | rfl | rfl | rfl | rfl | rfl | rfl | rfl | rfl <;> rfl
 have := has_any k 78 w
 rw [e] at this
 exact this
theorem hasO_call (k : Int) (w : World) (hk : isK k = true) : Calls Try.prog 74 #[.int .i64 k, .int .u8 79] w fun e w' => e = .returned (.bool (hasO k)) ∧ Step [] [] w w' := by
 have e : hasL k 79 = (hasO k) := by
  have h' : k = 1 ∨ k = 2 ∨ k = 3 ∨ k = 4 ∨ k = 5 ∨ k = 6 ∨ k = 7 ∨ k = 8 ∨ k = 9 ∨ k = 10 ∨ k = 11 ∨ k = 12 ∨ k = 13 ∨ k = 14 := by simp [isK] at hk; omega
  rcases h' with rfl | rfl | rfl | rfl | rfl | rfl | rfl | rfl | rfl | rfl | rfl | rfl | rfl | rfl <;> rfl
 have := has_any k 79 w
 rw [e] at this
 exact this
theorem hasW_call (k : Int) (w : World) (hk : isK k = true) : Calls Try.prog 74 #[.int .i64 k, .int .u8 87] w fun e w' => e = .returned (.bool (hasW k)) ∧ Step [] [] w w' := by
 have e : hasL k 87 = (hasW k) := by
  have h' : k = 1 ∨ k = 2 ∨ k = 3 ∨ k = 4 ∨ k = 5 ∨ k = 6 ∨ k = 7 ∨ k = 8 ∨ k = 9 ∨ k = 10 ∨ k = 11 ∨ k = 12 ∨ k = 13 ∨ k = 14 := by simp [isK] at hk; omega
  rcases h' with rfl | rfl | rfl | rfl | rfl | rfl | rfl | rfl | rfl | rfl | rfl | rfl | rfl | rfl <;> rfl
 have := has_any k 87 w
 rw [e] at this
 exact this
theorem hasS_call (k : Int) (w : World) (hk : isK k = true) : Calls Try.prog 74 #[.int .i64 k, .int .u8 83] w fun e w' => e = .returned (.bool (hasS k)) ∧ Step [] [] w w' := by
 have e : hasL k 83 = (hasS k) := by
  have h' : k = 1 ∨ k = 2 ∨ k = 3 ∨ k = 4 ∨ k = 5 ∨ k = 6 ∨ k = 7 ∨ k = 8 ∨ k = 9 ∨ k = 10 ∨ k = 11 ∨ k = 12 ∨ k = 13 ∨ k = 14 := by simp [isK] at hk; omega
  rcases h' with rfl | rfl | rfl | rfl | rfl | rfl | rfl | rfl | rfl | rfl | rfl | rfl | rfl | rfl <;> rfl
 have := has_any k 83 w
 rw [e] at this
 exact this
theorem hasQ_call (k : Int) (w : World) (hk : isK k = true) : Calls Try.prog 74 #[.int .i64 k, .int .u8 81] w fun e w' => e = .returned (.bool (hasQ k)) ∧ Step [] [] w w' := by
 have e : hasL k 81 = (hasQ k) := by
  have h' : k = 1 ∨ k = 2 ∨ k = 3 ∨ k = 4 ∨ k = 5 ∨ k = 6 ∨ k = 7 ∨ k = 8 ∨ k = 9 ∨ k = 10 ∨ k = 11 ∨ k = 12 ∨ k = 13 ∨ k = 14 := by simp [isK] at hk; omega
  rcases h' with rfl | rfl | rfl | rfl | rfl | rfl | rfl | rfl | rfl | rfl | rfl | rfl | rfl | rfl <;> rfl
 have := has_any k 81 w
 rw [e] at this
 exact this
theorem hasG_call (k : Int) (w : World) (hk : isK k = true) : Calls Try.prog 74 #[.int .i64 k, .int .u8 71] w fun e w' => e = .returned (.bool (hasG k)) ∧ Step [] [] w w' := by
 have e : hasL k 71 = (hasG k) := by
  have h' : k = 1 ∨ k = 2 ∨ k = 3 ∨ k = 4 ∨ k = 5 ∨ k = 6 ∨ k = 7 ∨ k = 8 ∨ k = 9 ∨ k = 10 ∨ k = 11 ∨ k = 12 ∨ k = 13 ∨ k = 14 := by simp [isK] at hk; omega
  rcases h' with rfl | rfl | rfl | rfl | rfl | rfl | rfl | rfl | rfl | rfl | rfl | rfl | rfl | rfl <;> rfl
 have := has_any k 71 w
 rw [e] at this
 exact this
theorem hasP_call (k : Int) (w : World) (hk : isK k = true) : Calls Try.prog 74 #[.int .i64 k, .int .u8 80] w fun e w' => e = .returned (.bool (decide (k = 12))) ∧ Step [] [] w w' := by
 have e : hasL k 80 = (decide (k = 12)) := by
  have h' : k = 1 ∨ k = 2 ∨ k = 3 ∨ k = 4 ∨ k = 5 ∨ k = 6 ∨ k = 7 ∨ k = 8 ∨ k = 9 ∨ k = 10 ∨ k = 11 ∨ k = 12 ∨ k = 13 ∨ k = 14 := by simp [isK] at hk; omega
  rcases h' with rfl | rfl | rfl | rfl | rfl | rfl | rfl | rfl | rfl | rfl | rfl | rfl | rfl | rfl <;> rfl
 have := has_any k 80 w
 rw [e] at this
 exact this
theorem hasR_call (k : Int) (w : World) (hk : isK k = true) : Calls Try.prog 74 #[.int .i64 k, .int .u8 82] w fun e w' => e = .returned (.bool (hasR k)) ∧ Step [] [] w w' := by
 have e : hasL k 82 = (hasR k) := by
  have h' : k = 1 ∨ k = 2 ∨ k = 3 ∨ k = 4 ∨ k = 5 ∨ k = 6 ∨ k = 7 ∨ k = 8 ∨ k = 9 ∨ k = 10 ∨ k = 11 ∨ k = 12 ∨ k = 13 ∨ k = 14 := by simp [isK] at hk; omega
  rcases h' with rfl | rfl | rfl | rfl | rfl | rfl | rfl | rfl | rfl | rfl | rfl | rfl | rfl | rfl <;> rfl
 have := has_any k 82 w
 rw [e] at this
 exact this
theorem hasT_call (k : Int) (w : World) (hk : isK k = true) : Calls Try.prog 74 #[.int .i64 k, .int .u8 84] w fun e w' => e = .returned (.bool (hasT k)) ∧ Step [] [] w w' := by
 have e : hasL k 84 = (hasT k) := by
  have h' : k = 1 ∨ k = 2 ∨ k = 3 ∨ k = 4 ∨ k = 5 ∨ k = 6 ∨ k = 7 ∨ k = 8 ∨ k = 9 ∨ k = 10 ∨ k = 11 ∨ k = 12 ∨ k = 13 ∨ k = 14 := by simp [isK] at hk; omega
  rcases h' with rfl | rfl | rfl | rfl | rfl | rfl | rfl | rfl | rfl | rfl | rfl | rfl | rfl | rfl <;> rfl
 have := has_any k 84 w
 rw [e] at this
 exact this
end Go.Proofs.Ytjfaplmojpldhaa
