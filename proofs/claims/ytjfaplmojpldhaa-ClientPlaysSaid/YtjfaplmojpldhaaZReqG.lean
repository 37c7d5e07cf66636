/-
 What req's wrong calls: its closure, slices.IndexFunc, ContainsFunc, Grow, Concat. Condition: at most 2^40 of each.
-/
import Derived.Test.YtjfaplmojpldhaaZReqE
import Derived.Lib.AppendZeros
namespace Go.Proofs.Ytjfaplmojpldhaa
open Go.RowKit
set_option linter.unusedSimpArgs false
set_option linter.unusedVariables false
set_option maxRecDepth 100000

/-- No number of layer 3's. -/
def bigN (n : Int) : Bool := decide (n < 0) || decide (4611686018427387903 < n)
theorem wrong1_any (n : Int) (w : World) : Calls Try.prog 83 #[.int .i64 n] w fun e w' => e = .returned (.bool (bigN n)) ∧ w = w' := by
 cases h1 : decide (n < 0) with
 | true =>
  have HE : Hid (bigN n = true) := Lib.hid (by simp only [bigN, h1, Bool.true_or])
  go_enter Try.func83, Try.ntmps83
  go_wp2_with fail
  exact bodyPost_ret (results_tmp rfl _ _ _) rfl ⟨by rw [HE.out]; rfl, rfl⟩
 | false =>
  have HE : Hid (bigN n = decide (4611686018427387903 < n)) := Lib.hid (by simp only [bigN, h1, Bool.false_or])
  go_enter Try.func83, Try.ntmps83
  go_wp2_with fail
  exact bodyPost_ret (results_tmp rfl _ _ _) rfl ⟨by rw [HE.out]; rfl, rfl⟩
set_option maxHeartbeats 1000000 in
theorem indexF_any (ns : List Int) (a : Option Addr) (cap : Nat) (w : World) (hr : Rd w 1 a ns.length (intsV ns)) (hl : ns.length ≤ 1099511627776) :
  Calls Try.prog 87 #[.slice a ns.length cap, .func (.func 83) #[] #[]] w fun e w' => (∃ r : Int, e = .returned (.int .i64 r) ∧ decide (0 ≤ r) = ns.any bigN) ∧ w = w' := by
 have HR := Lib.hid hr
 clear hr
 go_enter Try.func87, Try.ntmps87
 go_wp2_with fail
 go_loopw [8] (fun i W => ∃ k : Nat, i = .int .i64 k ∧ k ≤ ns.length ∧ Hid (w = W ∧ (ns.take k).any bigN = false)) (fun i _ => ns.length - (intOf i).toNat)
 case atStart => exact ⟨0, rfl, by omega, rfl, rfl⟩
 case round =>
  rename World => W
  obtain ⟨k, rfl, hk, HW⟩ := hrel
  obtain rfl := HW.out.1
  by_cases hlt : k < ns.length
  ·have hlt' : (k : Int) < ns.length := by omega
   obtain ⟨n, hn⟩ : ∃ n, ns[k]? = some n := ⟨_, List.getElem?_eq_getElem hlt⟩
   obtain ⟨g, off, hsa⟩ := HR.out.some_ (by omega)
   subst hsa
   have cn : w.cell? ⟨g, off + k, none⟩ = some (.int .i64 n) := HR.out.cell g off none rfl k _ (by simp [intsV, hn])
   have gl := World.block_lt_of_cell? _ _ cn
   simp only at gl
   have HX := Lib.hid hn
   clear hn
   go_wp2_with fail
   refine (wrong1_any n w).mono ?_
   rintro e w2 ⟨rfl, rfl⟩
   cases hb : bigN n with
   | true =>
    have HE : Hid (ns.any bigN = true) := Lib.hid (List.any_eq_true.2 ⟨n, List.mem_of_getElem? HX.out, hb⟩)
    clear hb
    go_wp2_with fail
    exact bodyPost_ret (results_tmp rfl _ _ _) rfl ⟨⟨k, rfl, by rw [HE.out]; exact decide_eq_true (by omega)⟩, rfl⟩
   | false =>
    have HT : Hid ((ns.take (k + 1)).any bigN = false) := Lib.hid (by rw [List.take_add_one, HX.out]; simp only [List.any_append, HW.out.2]; simp [hb])
    clear hb
    go_wp2_with fail
    go_roundw
    case rel => exact ⟨k + 1, by go_num, by omega, trivial, HT.out⟩
    case measure => simp [intOf]; omega
  ·obtain rfl : k = ns.length := by omega
   have HE : Hid (ns.any bigN = false) := Lib.hid (by have := HW.out.2; rwa [List.take_length] at this)
   go_wp2_with fail
   exact bodyPost_ret (results_tmp rfl _ _ _) rfl ⟨⟨-1, rfl, by rw [HE.out]; rfl⟩, rfl⟩
theorem containsF_any (ns : List Int) (a : Option Addr) (cap : Nat) (w : World) (hr : Rd w 1 a ns.length (intsV ns)) (hl : ns.length ≤ 1099511627776) :
  Calls Try.prog 82 #[.slice a ns.length cap, .func (.func 83) #[] #[]] w fun e w' => e = .returned (.bool (ns.any bigN)) ∧ w = w' := by
 go_enter Try.func82, Try.ntmps82
 go_wp2_with fail
 refine (indexF_any ns a cap w hr hl).mono ?_
 rintro e w2 ⟨⟨r, rfl, hd⟩, rfl⟩
 have HD := Lib.hid hd
 clear hd
 go_wp2_with fail
 exact bodyPost_ret (results_tmp rfl _ _ _) rfl ⟨by rw [← HD.out]; rfl, rfl⟩
/-- Grow, of no slice. -/
theorem growD_any (n : Nat) (w : World) (hn : n ≤ 1099511627776) :
  Calls Try.prog 86 #[.slice none 0 0, .int .i64 n] w fun e w' => ∃ a cap, e = .returned (.slice a 0 cap) ∧ Row w' 7 a 0 cap [] ∧ Step [] (blks a) w w' := by
 obtain ⟨i0, hi, hz0, hz1, hz2⟩ := info_parts Try.info_do
 have HI := Lib.hid (And.intro hi (And.intro hz0 (And.intro hz1 hz2)))
 clear hi hz0 hz1 hz2
 by_cases h0 : n = 0
 ·subst h0
  go_enter Try.func86, Try.ntmps86
  go_wp2_with fail
  exact bodyPost_ret (results_tmp rfl _ _ _) rfl ⟨none, 0, rfl, Row.none w 7, Step.refl _ _⟩
 ·have hp : (0 : Int) < n := by omega
  have hge := grownCap_ge w n 0 108
  have hcm := grownCap_le_maxLen w n 0 108 (by unfold maxLen; omega)
  have hrun := Lib.run_append_nil_zeros (P := Try.prog) w 42 3 42 108 i0 _ .i64 .i64 Try.underlying42 Try.underlying3 HI.out.1 HI.out.2.1 n (by omega) (by rw [HI.out.2.2.1]; omega) (by omega) (by rw [HI.out.2.2.2]; omega)
  obtain ⟨cc, hcc⟩ : ∃ cc, cc = grownCap w n 0 108 := ⟨_, rfl⟩
  rw [← hcc] at hge hcm hrun
  obtain ⟨W, hW⟩ : ∃ W, W = w.drew.alloc (.cells (Builtin.zeroCells (Value.agg #[.int .i64 0, .string ⟨#[]⟩, .string ⟨#[]⟩, .string ⟨#[]⟩, .string ⟨#[]⟩, .int .i64 0, .int .i64 0]).cells n ++ Builtin.zeroCells (Value.agg #[.int .i64 0, .string ⟨#[]⟩, .string ⟨#[]⟩, .string ⟨#[]⟩, .string ⟨#[]⟩, .int .i64 0, .int .i64 0]).cells (cc - n)) 108) := ⟨_, rfl⟩
  rw [← hW] at hrun
  have HR : Hid (Row W 7 (some ⟨w.heap.size, 0, none⟩) 0 cc [] ∧ Step [] [w.heap.size] w W) := by
   rw [hW]
   refine ⟨⟨by simp, Nat.zero_le _, hcm, (fun e => by cases e), fun ad e => ?_⟩, ?_⟩
   ·injection e with e
    subst e
    refine ⟨rfl, _, (Blk.new w.drew _ _).cells, ?_, by simp⟩
    rw [Array.size_append, size_zeroCells, size_zeroCells]
    have : (Value.agg #[.int .i64 0, .string ⟨#[]⟩, .string ⟨#[]⟩, .string ⟨#[]⟩, .string ⟨#[]⟩, .int .i64 0, .int .i64 0]).cells.size = 7 := rfl
    rw [this]
    simp
    omega
   ·exact (((Step.refl [] w).drew).hold _).drop (by simp)
  have HRUN := Lib.hid hrun
  have hne : ¬ cc = 0 := by omega
  clear hW hrun hcc
  go_enter Try.func86, Try.ntmps86
  go_wp2_with (at_builtin; refine Lib.wpList_append_run _ rfl (.tmp 20) (.tmp 21) _ _ rfl _ _ rfl rfl _ _ HRUN.out ?_)
  go_wp2_with fail
  exact bodyPost_ret (results_tmp rfl _ _ _) rfl ⟨_, cc, rfl, HR.out.1, by simpa [blks] using HR.out.2⟩
/-- Concat, of two slices. -/
def ConcatP (l1 l2 : List Da) (w : World) (e : Ending) (w' : World) : Prop := ∃ a cap, e = .returned (.slice a (l1.length + l2.length) cap) ∧ Rd w' 7 a (l1.length + l2.length) (dacs (l1 ++ l2)) ∧ Step [] (blks a) w w'
set_option maxHeartbeats 4000000 in
theorem concat_any (l1 l2 : List Da) (a1 a2 : Option Addr) (c1 c2 g : Nat) (w : World) (hb : Blk w g 42 #[.slice a1 l1.length c1, .slice a2 l2.length c2]) (hr1 : Rd w 7 a1 l1.length (dacs l1)) (hr2 : Rd w 7 a2 l2.length (dacs l2)) (h1 : l1.length ≤ 274877906944) (h2 : l2.length ≤ 274877906944) :
  Calls Try.prog 81 #[.slice (some ⟨g, 0, none⟩) 2 2] w (ConcatP l1 l2 w) := by
 have H0 := Lib.hid (And.intro hb (And.intro hr1 hr2))
 clear hb hr1 hr2
 obtain ⟨i0, hi, hz0, hz1, hz2⟩ := info_parts Try.info_do
 have HI := Lib.hid (And.intro hi (And.intro hz0 (And.intro hz1 hz2)))
 clear hi hz0 hz1 hz2
 have b0 := H0.out.1.cell 0
 have b1 := H0.out.1.cell 1
 have bl := H0.out.1.lt
 simp only [List.getElem?_toArray, List.getElem?_cons_zero, List.getElem?_cons_succ] at b0 b1
 go_enter Try.func81, Try.ntmps81
 go_wp2_with fail
 go_loopw [3, 11] (fun z i W => ∃ k : Nat, i = .int .i64 k ∧ k ≤ 2 ∧ z = .int .i64 (((if 1 ≤ k then l1.length else 0) + (if 2 ≤ k then l2.length else 0) : Nat) : Int) ∧ Hid (w = W)) (fun _ i _ => 2 - (intOf i).toNat)
 case atStart => exact ⟨0, rfl, by omega, rfl, rfl⟩
 case round =>
  rename World => W
  obtain ⟨k, rfl, hk, rfl, HW⟩ := hrel
  obtain rfl := HW.out
  obtain rfl | rfl | rfl : k = 0 ∨ k = 1 ∨ k = 2 := by omega
  ·simp only [show ¬ (1 ≤ 0) by omega, show ¬ (2 ≤ 0) by omega, if_false]
   go_wp2_with fail
   go_roundw
   case rel => exact ⟨1, rfl, by omega, by simp, trivial⟩
   case measure => simp [intOf]
  ·simp only [show (1 ≤ 1) by omega, show ¬ (2 ≤ 1) by omega, if_true, if_false, Nat.add_zero]
   have hnl : ¬ ((l1.length : Int) + (l2.length : Int) < 0) := by omega
   go_wp2_with fail
   go_roundw
   case rel => exact ⟨2, rfl, by omega, by simp, trivial⟩
   case measure => simp [intOf]
  ·simp only [show (1 ≤ 2) by omega, show (2 ≤ 2) by omega, if_true]
   obtain ⟨N, hN⟩ : ∃ N, N = l1.length + l2.length := ⟨_, rfl⟩
   have HN := Lib.hid hN
   have hNl : N ≤ 549755813888 := by omega
   rw [← hN]
   clear hN
   go_wp2_with fail
   refine (growD_any N w (by omega)).mono ?_
   rintro e w2 ⟨a, cap, rfl, r2, k2⟩
   have H2 : Hid (Row w2 7 a 0 cap [] ∧ Step [] (blks a) w w2) := ⟨r2, k2⟩
   clear r2 k2 b0 b1 bl
   go_wp2_with fail
   go_loopw [6, 27] (fun z i W => ∃ (k : Nat) (b : Option Addr) (c n : Nat) (xs : List Da), i = .int .i64 k ∧ k ≤ 2 ∧ z = .slice b n c ∧ n ≤ 549755813888 ∧ Hid (n = xs.length ∧ (k = 0 → xs = []) ∧ (k = 1 → xs = l1) ∧ (k = 2 → xs = l1 ++ l2) ∧ Row W 7 b n c (dacs xs) ∧ Step [] (blks b) w W)) (fun _ i _ => 2 - (intOf i).toNat)
   case atStart => exact ⟨0, a, cap, 0, [], rfl, by omega, rfl, by omega, rfl, by simp, by simp, by simp, H2.out.1, H2.out.2⟩
   case round =>
    clear H2
    rename World => W
    obtain ⟨k, b, c, n, xs, rfl, hk, rfl, hn, HW⟩ := hrel
    have b0 := (H0.out.1.step HW.out.2.2.2.2.2 (by simp)).cell 0
    have b1 := (H0.out.1.step HW.out.2.2.2.2.2 (by simp)).cell 1
    have bl := (H0.out.1.step HW.out.2.2.2.2.2 (by simp)).lt
    simp only [List.getElem?_toArray, List.getElem?_cons_zero, List.getElem?_cons_succ] at b0 b1
    obtain rfl | rfl | rfl : k = 0 ∨ k = 1 ∨ k = 2 := by omega
    ·have hx := HW.out.2.1 rfl
     subst hx
     have hn0 : n = 0 := HW.out.1
     subst hn0
     have HS : Hid (Rd W 7 a1 l1.length (dacs l1)) := H0.out.2.1.step0 HW.out.2.2.2.2.2
     go_wp2_with (at_builtin; refine wpList_append_row rfl (.tmp 31) (.tmp 32) 42 42 rfl 108 i0 _ 7 88 Try.underlying42 HI.out.1 HI.out.2.1 HI.out.2.2.1 HI.out.2.2.2 rfl rfl HW.out.2.2.2.2.1 rfl (Src.rd 42 108 Try.underlying42 HS.out (dacs_one _)) (by unfold maxLen; omega) (by omega) (by omega) ?_; intro a9 c9 w9 hr9 st9; rw [← dacs_app, List.nil_append] at hr9; have H9 : Hid (Row w9 7 a9 (0 + l1.length) c9 (dacs l1) ∧ Step [] (blks a9) w w9) := ⟨hr9, HW.out.2.2.2.2.2.trans st9⟩; clear hr9 st9 b0 b1 bl)
     go_wp2_with fail
     go_roundw
     case rel => exact ⟨1, a9, c9, l1.length, l1, rfl, by omega, rfl, by omega, rfl, by simp, by simp, by simp, by have := H9.out.1; rwa [Nat.zero_add] at this, H9.out.2⟩
     case measure => simp [intOf]
    ·have hx := HW.out.2.2.1 rfl
     subst hx
     have HS : Hid (Rd W 7 a2 l2.length (dacs l2)) := H0.out.2.2.step0 HW.out.2.2.2.2.2
     have hnx := Lib.hid HW.out.1
     have hnb : n + l2.length ≤ 549755813888 := by have := hnx.out; omega
     go_wp2_with (at_builtin; refine wpList_append_row rfl (.tmp 31) (.tmp 32) 42 42 rfl 108 i0 _ 7 88 Try.underlying42 HI.out.1 HI.out.2.1 HI.out.2.2.1 HI.out.2.2.2 rfl rfl HW.out.2.2.2.2.1 rfl (Src.rd 42 108 Try.underlying42 HS.out (dacs_one _)) (by unfold maxLen; omega) (by omega) (by omega) ?_; intro a9 c9 w9 hr9 st9; rw [← dacs_app] at hr9; have H9 : Hid (Row w9 7 a9 (n + l2.length) c9 (dacs (xs ++ l2)) ∧ Step [] (blks a9) w w9) := ⟨hr9, HW.out.2.2.2.2.2.trans st9⟩; clear hr9 st9 b0 b1 bl)
     go_wp2_with fail
     go_roundw
     case rel => exact ⟨2, a9, c9, n + l2.length, xs ++ l2, rfl, by omega, rfl, hnb, by simp [hnx.out], by simp, by simp, by simp, H9.out.1, H9.out.2⟩
     case measure => simp [intOf]
    ·have hx := HW.out.2.2.2.1 rfl
     subst hx
     have hnx := Lib.hid HW.out.1
     go_wp2_with fail
     refine bodyPost_ret (results_tmp rfl _ _ _) rfl ⟨b, c, ?_, ?_, HW.out.2.2.2.2.2⟩
     ·rw [hnx.out, List.length_append]
      rfl
     ·have := HW.out.2.2.2.2.1.rd
      rwa [hnx.out, List.length_append] at this
end Go.Proofs.Ytjfaplmojpldhaa
