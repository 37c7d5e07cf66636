/-
 exchequerref08: File, Named, Text. Conditions: a number of at most 2^40; a right snapshot.
-/
import Derived.Test.YtjdgdmlhipbaaaaGreatDoorZGB
import Derived.Test.YtjdgdmlhipbaaaaGreatDoorZShR
import Derived.Test.YtjdgdmlhipbaaaaGreatDoorZGJ
import Derived.Test.YtjdgdmlhipbaaaaGreatDoorZGP
import Derived.Test.YtjdgdmlhipbaaaaGreatDoorZPackRefR
namespace Go.Proofs.YtjdgdmlhipbaaaaGreatDoor
open Go.RowKit Go.Lib
set_option linter.unusedSimpArgs false
set_option linter.unusedVariables false
set_option maxRecDepth 100000

theorem digs_front (k n : Nat) : digs (k + 1) n = UInt8.ofNat (48 + n / 10 ^ k % 10) :: digs k n := by
 induction k generalizing n with
 | zero => simp [digs]
 | succ k ih =>
  rw [digs, ih]
  conv => rhs; rw [digs]
  rw [Nat.div_div_eq_div_mul, ← Nat.pow_succ', List.cons_append]
set_option maxHeartbeats 4000000 in
theorem rfile_any (n : Nat) (hn : n ≤ 1099511627776) (w : World) : Calls Tryz.prog 32 #[.int .i64 n] w fun e w' => e = .returned (Str (fileB n)) ∧ Step [] [] w w' := by
 have kc := fun (w : World) (x : Int) (T : TypeId) (h0 : 0 ≤ x) (h1 : x < 256) => run_str_one (P := Tryz.prog) 92 9 5 Tryz.underlying92 Tryz.underlying5 Tryz.underlying9 w x T h0 h1
 go_enter Tryz.func32, Tryz.ntmps32
 go_wp2_with fail
 go_loopw [0, 3, 4] (fun nv sv i W => ∃ (k m : Nat) (s : List UInt8), i = .int .i64 k ∧ k ≤ 13 ∧ nv = .int .i64 m ∧ m ≤ 1099511627776 ∧ sv = Str s ∧ s.length = k ∧ Hid (m = n / 10 ^ k ∧ s = digs k n ∧ Step [] [] w W)) (fun _ _ i _ => 13 - (intOf i).toNat)
 case atStart => exact ⟨0, n, [], rfl, by omega, rfl, hn, rfl, rfl, Lib.hid ⟨by simp, rfl, Step.refl _ _⟩⟩
 case round =>
  rename World => W
  obtain ⟨k, m, s, rfl, hk, rfl, hm, rfl, hs, HW⟩ := hrel
  by_cases hlt : k < 13
  ·have hlt' : (k : Int) < 13 := by omega
   have hld : decide ((k : Int) < 13) = true := decide_eq_true hlt'
   have hs1 : s.length + 1 ≤ 9223372036854775807 := by omega
   obtain ⟨x, hx⟩ : ∃ x, x = 48 + m % 10 := ⟨_, rfl⟩
   have hx2 : 48 + (m : Int) % 10 = (x : Int) := by omega
   have hxl : x < 256 := by omega
   have hxw : IntKind.u8.wrap (x : Int) = (x : Int) := IntWalk.u8_in _ (by omega)
   have k0 : 0 ≤ (x : Int) := by omega
   have k1 : (x : Int) < 256 := by omega
   have HX := Lib.hid hx
   clear hx
   go_wp2_with fail
   go_roundw
   case rel => exact ⟨k + 1, m / 10, UInt8.ofNat x :: s, by go_num, by omega, by go_num, by omega, rfl, by simp [hs], Lib.hid ⟨by rw [HW.out.1, Nat.div_div_eq_div_mul, Nat.pow_succ], by rw [digs_front, ← HW.out.1, ← HW.out.2.1, ← HX.out], HW.out.2.2.alloc _⟩⟩
   case measure => simp [intOf]; omega
  ·obtain rfl : k = 13 := by omega
   go_wp2_with fail
   exact bodyPost_ret (results_tmp rfl _ _ _) rfl ⟨by rw [fileB, ← HW.out.2.1]; rfl, HW.out.2.2⟩
theorem all_not {r : List UInt8} {j : Nat} {c : UInt8} (h : r[j]? = some c) (hc : digB c = false) : r.all digB = false := by
 rw [List.all_eq_false]
 exact ⟨c, List.mem_of_getElem? h, by rw [hc]; simp⟩
set_option maxHeartbeats 4000000 in
theorem rnamed_any (f : List UInt8) (w : World) : Calls Tryz.prog 39 #[Str f] w fun e w' => e = .returned (.bool (namedB f)) ∧ Step [] [] w w' := by
 go_enter Tryz.func39, Tryz.ntmps39
 by_cases h14 : f.length = 14
 case neg =>
  have hd : decide ((f.length : Int) = 14) = false := decide_eq_false (by omega)
  have HF : Hid (namedB f = false) := Lib.hid (by unfold namedB; rw [decide_eq_false h14]; rfl)
  go_wp2_with fail
  exact bodyPost_ret (results_tmp rfl _ _ _) rfl ⟨by rw [HF.out]; rfl, Step.refl _ _⟩
 have hd : decide ((f.length : Int) = 14) = true := decide_eq_true (by omega)
 obtain ⟨c0, r, rfl⟩ : ∃ c r, f = c :: r := by cases f with | nil => simp at h14 | cons c r => exact ⟨c, r, rfl⟩
 have h13 : r.length = 13 := by simpa using h14
 by_cases hc : c0.toNat = 115
 case neg =>
  have hcd : decide ((c0.toNat : Int) = 115) = false := decide_eq_false (by omega)
  have HF : Hid (namedB (c0 :: r) = false) := Lib.hid (by
   unfold namedB
   rw [decide_eq_true h14, List.head?_cons, show (some c0 == some (115 : UInt8)) = false from by simp; exact fun e => hc (by rw [e]; rfl)]
   rfl)
  go_wp2_with fail
  exact bodyPost_ret (results_tmp rfl _ _ _) rfl ⟨by rw [HF.out]; rfl, Step.refl _ _⟩
 have hcd : decide ((c0.toNat : Int) = 115) = true := decide_eq_true (by omega)
 have hF : Hid (namedB (c0 :: r) = r.all digB) := Lib.hid (by
  unfold namedB digB
  rw [decide_eq_true h14, show c0 = 115 from UInt8.toNat.inj hc]
  rfl)
 go_wp2_with fail
 clear hd hcd hc
 go_loopw [3] (fun i W => ∃ k : Nat, i = .int .i64 k ∧ 1 ≤ k ∧ k ≤ 14 ∧ Hid ((r.take (k - 1)).all digB = true ∧ W = w)) (fun i _ => 14 - (intOf i).toNat)
 case atStart => exact ⟨1, rfl, by omega, by omega, Lib.hid ⟨rfl, rfl⟩⟩
 case round =>
  rename World => W
  obtain ⟨k, rfl, hk1, hk, HW⟩ := hrel
  by_cases hlt : k < 14
  ·have hlt' : (k : Int) < 14 := by omega
   have hld : decide ((k : Int) < 14) = true := decide_eq_true hlt'
   have hkf : k < (c0 :: r).length := by omega
   obtain ⟨c, hc⟩ : ∃ c, c = (c0 :: r)[k] := ⟨_, rfl⟩
   have hcr : r[k - 1]? = some c := by
    rw [hc]
    obtain ⟨j, rfl⟩ : ∃ j, k = j + 1 := ⟨k - 1, by omega⟩
    simp only [List.getElem_cons_succ, Nat.add_sub_cancel]
    exact List.getElem?_eq_getElem (by simpa using hkf)
   have HCR := Lib.hid hcr
   have hcc : (c0 :: r)[k].toNat = c.toNat := by rw [hc]
   by_cases hlo : c.toNat < 48
   ·have hlo' : decide ((c.toNat : Int) < 48) = true := decide_eq_true (by omega)
    have HF : Hid (r.all digB = false) := Lib.hid (all_not hcr (by unfold digB; rw [decide_eq_false (by omega)]; rfl))
    have HW2 := Lib.hid HW.out.2
    clear hcr hc HW
    go_wp2_with fail
    exact bodyPost_ret (results_tmp rfl _ _ _) rfl ⟨by rw [hF.out, HF.out]; rfl, by rw [HW2.out]; exact Step.refl _ _⟩
   ·have hlo' : decide ((c.toNat : Int) < 48) = false := decide_eq_false (by omega)
    by_cases hhi : 57 < c.toNat
    ·have hhi' : decide ((57 : Int) < (c.toNat : Int)) = true := decide_eq_true (by omega)
     have HF : Hid (r.all digB = false) := Lib.hid (all_not hcr (by unfold digB; rw [decide_eq_false (show ¬ c.toNat ≤ 57 by omega)]; simp))
     have HW2 := Lib.hid HW.out.2
     clear hcr hc HW
     go_wp2_with fail
     exact bodyPost_ret (results_tmp rfl _ _ _) rfl ⟨by rw [hF.out, HF.out]; rfl, by rw [HW2.out]; exact Step.refl _ _⟩
    ·have hhi' : decide ((57 : Int) < (c.toNat : Int)) = false := decide_eq_false (by omega)
     have HN : Hid ((r.take (k + 1 - 1)).all digB = true ∧ W = w) := Lib.hid (by
      refine ⟨?_, HW.out.2⟩
      rw [show k + 1 - 1 = (k - 1) + 1 by omega, List.take_add_one, hcr, List.all_append, HW.out.1]
      simp [digB]
      omega)
     clear hcr hc HW
     go_wp2_with fail
     go_roundw
     case rel => exact ⟨k + 1, by go_num, by omega, by omega, HN⟩
     case measure => simp [intOf]; omega
  ·obtain rfl : k = 14 := by omega
   have HF : Hid (r.all digB = true ∧ W = w) := Lib.hid (by have h := HW.out; rwa [show 14 - 1 = 13 from rfl, List.take_of_length_le (by omega)] at h)
   clear HW
   go_wp2_with fail
   exact bodyPost_ret (results_tmp rfl _ _ _) rfl ⟨by rw [hF.out, HF.out.1]; rfl, by rw [HF.out.2]; exact Step.refl _ _⟩
theorem lob_256 (x : Wd) : IntKind.u8.wrap ((x.toNat : Int) % 256) = ((lob x).toNat : Int) := by
 rw [← wd_lob, IntKind.wrap_u8', IntKind.wrap_u8']
 omega
set_option maxHeartbeats 4000000 in
theorem rtext8_any (s : Sn) (hs : RSn s) (w : World) : Calls Tryz.prog 36 #[snV s] w fun e w' => e = .returned (Str (textB s)) ∧ Step [] [] w w' := by
 have HR := Lib.hid hs
 have n1 : (numB s.i.toNat).length ≤ 9 := numB_len _ (by have := hs.i; omega)
 have n2 : (numB s.t.toNat).length ≤ 9 := numB_len _ (by have := hs.t; omega)
 have n3 : (numB s.dt.length).length ≤ 9 := numB_len _ (by have := hs.dt; omega)
 have n4 : s.dt.length ≤ 1048576 := hs.dt
 clear hs
 go_enter Tryz.func36, Tryz.ntmps36
 go_upto_region 1 with fail
 obtain ⟨b, hb⟩ : ∃ b, b = w.heap.size := ⟨_, rfl⟩
 obtain ⟨V, hV⟩ : ∃ V, V = w.alloc (.cells (snc s).toArray 33) := ⟨_, rfl⟩
 have H1 : Hid (Blk V.drew b 33 (snc s).toArray ∧ Step [] [] w V.drew) := by
  subst hV hb
  exact ⟨(Blk.new w _ _).step ((Step.refl [] _).drew) (by simp), ((Step.refl [] w).alloc _).drew⟩
 change Code.wp _ _ _ _ (w.alloc (.cells (snc s).toArray 33))
 rw [← hV]
 try rw [← hb]
 clear hV hb
 refine wp_region_held_drew (S := fun W => Hid (Blk W b 33 (snc s).toArray ∧ Step [] [] w W)) (by kernel_rfl) (H1) (fun hHeld => ?_)
 refine wpAnyH_take (i := 0) (v := ?_) rfl (by kernel_rfl) (by kernel_rfl) (by kernel_rfl) (fun _ _ _ h => h) (Or.inl ⟨by rfl, ?_⟩) hHeld ?_
 rotate_left
 ·intro w hSw1
  try dsimp only at hSw1
  go_simp
  try (with_reducible rfl)
 try simp only [Act.put, LsA, LsB, LsC, LsD, LsE, LsF]
 refine wpAnyH_take (i := 1) (v := ?_) rfl (by kernel_rfl) (by kernel_rfl) (by kernel_rfl) (fun _ _ _ h => h) (Or.inl ⟨by rfl, ?_⟩) hHeld ?_
 rotate_left
 ·intro w hSw1
  have z := hSw1.out.1.cell 0
  simp only [snc, List.getElem?_toArray, List.getElem?_cons_zero, List.getElem?_cons_succ] at z
  go_simp
  try (with_reducible rfl)
 try simp only [Act.put, LsA, LsB, LsC, LsD, LsE, LsF]
 refine wpAnyH_take (i := 3) (v := ?_) rfl (by kernel_rfl) (by kernel_rfl) (by kernel_rfl) (fun _ _ _ h => h) (Or.inl ⟨by rfl, ?_⟩) hHeld ?_
 rotate_left
 ·intro w hSw1
  try dsimp only at hSw1
  go_simp
  try (with_reducible rfl)
 try simp only [Act.put, LsA, LsB, LsC, LsD, LsE, LsF]
 refine wpAnyH_take (i := 4) (v := ?_) rfl (by kernel_rfl) (by kernel_rfl) (by kernel_rfl) (fun _ _ _ h => h) (Or.inl ⟨by rfl, ?_⟩) hHeld ?_
 rotate_left
 ·intro w hSw1
  have z := hSw1.out.1.cell 1
  simp only [snc, List.getElem?_toArray, List.getElem?_cons_zero, List.getElem?_cons_succ] at z
  go_simp
  try (with_reducible rfl)
 try simp only [Act.put, LsA, LsB, LsC, LsD, LsE, LsF]
 refine wpAnyH_take (i := 7) (v := ?_) rfl (by kernel_rfl) (by kernel_rfl) (by kernel_rfl) (fun _ _ _ h => h) (Or.inl ⟨by rfl, ?_⟩) hHeld ?_
 rotate_left
 ·intro w hSw1
  try dsimp only at hSw1
  go_simp
  try (with_reducible rfl)
 try simp only [Act.put, LsA, LsB, LsC, LsD, LsE, LsF]
 refine wpAnyH_take (i := 8) (v := ?_) rfl (by kernel_rfl) (by kernel_rfl) (by kernel_rfl) (fun _ _ _ h => h) (Or.inl ⟨by rfl, ?_⟩) hHeld ?_
 rotate_left
 ·intro w hSw1
  have z := hSw1.out.1.cell 2
  simp only [snc, List.getElem?_toArray, List.getElem?_cons_zero, List.getElem?_cons_succ] at z
  go_simp
  try (with_reducible rfl)
 try simp only [Act.put, LsA, LsB, LsC, LsD, LsE, LsF]
 refine wpAnyH_take (i := 9) (v := ?_) rfl (by kernel_rfl) (by kernel_rfl) (by kernel_rfl) (fun _ _ _ h => h) (Or.inl ⟨by rfl, ?_⟩) hHeld ?_
 rotate_left
 ·intro w hSw1
  try dsimp only at hSw1
  go_simp
  try (with_reducible rfl)
 try simp only [Act.put, LsA, LsB, LsC, LsD, LsE, LsF]
 refine wpAnyH_take (i := 12) (v := ?_) rfl (by kernel_rfl) (by kernel_rfl) (by kernel_rfl) (fun _ _ _ h => h) (Or.inl ⟨by rfl, ?_⟩) hHeld ?_
 rotate_left
 ·intro w hSw1
  try dsimp only at hSw1
  go_simp
  try (with_reducible rfl)
 try simp only [Act.put, LsA, LsB, LsC, LsD, LsE, LsF]
 refine wpAnyH_take (i := 13) (v := ?_) rfl (by kernel_rfl) (by kernel_rfl) (by kernel_rfl) (fun _ _ _ h => h) (Or.inl ⟨by rfl, ?_⟩) hHeld ?_
 rotate_left
 ·intro w hSw1
  have z := hSw1.out.1.cell 2
  simp only [snc, List.getElem?_toArray, List.getElem?_cons_zero, List.getElem?_cons_succ] at z
  go_simp
  try (with_reducible rfl)
 try simp only [Act.put, LsA, LsB, LsC, LsD, LsE, LsF]
 refine wpAnyH_ready (rs := [2]) (by kernel_rfl) (by simp) ?_
 refine AllReadyH.cons rfl (fun K hK => ?_) AllReadyH.nil
 go_simp
 refine (refNumber_any s.i (by have := HR.out.i; omega) _).mono ?_; rintro e w9 ⟨rfl, k9⟩; have H9 := Lib.hid (And.intro (hHeld.out.1.step k9 (by simp)) (hHeld.out.2.trans k9)); clear k9
 go_wp2_with fail
 refine hK.out _ _ (H9) (fun hHeld2 => ?_)
 clear hK K hHeld
 try simp only [Act.put, LsA, LsB, LsC, LsD, LsE, LsF]
 refine wpAnyH_ready (rs := [5]) (by kernel_rfl) (by simp) ?_
 refine AllReadyH.cons rfl (fun K hK => ?_) AllReadyH.nil
 go_simp
 refine (refNumber_any s.t (by have := HR.out.t; omega) _).mono ?_; rintro e w9 ⟨rfl, k9⟩; have H9 := Lib.hid (And.intro (hHeld2.out.1.step k9 (by simp)) (hHeld2.out.2.trans k9)); clear k9
 go_wp2_with fail
 refine hK.out _ _ (H9) (fun hHeld3 => ?_)
 clear hK K hHeld2
 try simp only [Act.put, LsA, LsB, LsC, LsD, LsE, LsF]
 refine wpAnyH_take (i := 6) (v := ?_) rfl (by kernel_rfl) (by kernel_rfl) (by kernel_rfl) (fun _ _ _ h => h) (Or.inl ⟨by rfl, ?_⟩) hHeld3 ?_
 rotate_left
 ·intro w hSw1
  have q : ¬ 9223372036854775807 < (numB s.i.toNat).length + (numB s.t.toNat).length := by omega
  go_simp
  try (with_reducible rfl)
 try simp only [Act.put, LsA, LsB, LsC, LsD, LsE, LsF]
 refine wpAnyH_ready (rs := [10]) (by kernel_rfl) (by simp) ?_
 refine AllReadyH.cons rfl (fun K hK => ?_) AllReadyH.nil
 go_simp
 refine (refNumber_any (s.dt.length : Int) (by have := HR.out.dt; omega) _).mono ?_; rintro e w9 ⟨rfl, k9⟩; have H9 := Lib.hid (And.intro (hHeld3.out.1.step k9 (by simp)) (hHeld3.out.2.trans k9)); clear k9
 go_wp2_with fail
 refine hK.out _ _ (H9) (fun hHeld4 => ?_)
 clear hK K hHeld3
 try simp only [Act.put, LsA, LsB, LsC, LsD, LsE, LsF]
 refine wpAnyH_take (i := 11) (v := ?_) rfl (by kernel_rfl) (by kernel_rfl) (by kernel_rfl) (fun _ _ _ h => h) (Or.inl ⟨by rfl, ?_⟩) hHeld4 ?_
 rotate_left
 ·intro w hSw1
  have q : ¬ 9223372036854775807 < (numB s.i.toNat).length + (numB s.t.toNat).length + (numB s.dt.length).length := by omega
  go_simp
  try (with_reducible rfl)
 try simp only [Act.put, LsA, LsB, LsC, LsD, LsE, LsF]
 refine wpAnyH_take (i := 14) (v := ?_) rfl (by kernel_rfl) (by kernel_rfl) (by kernel_rfl) (fun _ _ _ h => h) (Or.inl ⟨by rfl, ?_⟩) hHeld4 ?_
 rotate_left
 ·intro w hSw1
  have q : ¬ 9223372036854775807 < (numB s.i.toNat).length + ((numB s.t.toNat).length + (numB s.dt.length).length) + s.dt.length := by omega
  go_simp
  try (with_reducible rfl)
 try simp only [Act.put, LsA, LsB, LsC, LsD, LsE, LsF]
 refine wpAnyH_take (i := 15) (v := ?_) rfl (by kernel_rfl) (by kernel_rfl) (by kernel_rfl) (fun _ _ _ h => h) (Or.inl ⟨by rfl, ?_⟩) hHeld4 ?_
 rotate_left
 ·intro w hSw1
  try dsimp only at hSw1
  go_simp
  try (with_reducible rfl)
 try simp only [Act.put, LsA, LsB, LsC, LsD, LsE, LsF]
 refine wpAnyH_done (by kernel_rfl) ?_ _
 go_wp2_with fail
 obtain ⟨bd, hbd⟩ : ∃ bd, bd = bodyB s := ⟨_, rfl⟩
 have HT : Hid (textB s = be4 (crcL bd) ++ bd) := Lib.hid (by rw [hbd]; rfl)
 have hbl : bd.length ≤ 1048603 := by rw [hbd]; exact body_len HR.out
 have hbe : numB s.i.toNat ++ (numB s.t.toNat ++ (numB s.dt.length ++ s.dt)) = bd := hbd.symm
 rw [hbe]
 clear hbd hbe
 rename World => w4
 have H4 := hHeld4
 clear hHeld4
 obtain ⟨g, cap, w5, hcv, hrow, hst, hg⟩ := run_row_of_str (P := Tryz.prog) (w := w4) 9 92 5 bd Tryz.underlying9 Tryz.underlying92 Tryz.underlying5 (by unfold maxLen; omega)
 rw [hcv, Result.andThen_ok, Oper.upon_value]
 have H5 := Lib.hid (And.intro hrow (H4.out.2.trans hst))
 clear hrow hst hcv hg
 go_wp2_with fail
 refine (of01_any bd _ _ _ H5.out.1.rd (by omega)).mono ?_
 rintro e w6 ⟨rfl, k6⟩
 have H6 := Lib.hid ((H5.out.2.trans (k6.keep _)))
 clear H5 k6
 obtain ⟨x, hx⟩ : ∃ x, x = crcL bd := ⟨_, rfl⟩
 rw [← hx]
 rw [← hx] at HT
 clear hx
 have hlb := lob_256
 go_wp2_with fail
 clear hlb
 have hcv2 : (convert 92 9 (.slice (some ⟨w6.heap.size, 0, none⟩) 4 4)).run Tryz.prog (w6.alloc (.cells #[.int .u8 ((lob (wshr x 24)).toNat : Int), .int .u8 ((lob (wshr x 16)).toNat : Int), .int .u8 ((lob (wshr x 8)).toNat : Int), .int .u8 ((lob x).toNat : Int)] 5)) = .ok (Str (be4 x)) (w6.alloc (.cells #[.int .u8 ((lob (wshr x 24)).toNat : Int), .int .u8 ((lob (wshr x 16)).toNat : Int), .int .u8 ((lob (wshr x 8)).toNat : Int), .int .u8 ((lob x).toNat : Int)] 5)) :=
  run_str_of_row (P := Tryz.prog) 92 9 5 Tryz.underlying92 Tryz.underlying5 Tryz.underlying9 (row_fresh w6 5 ((be4 x).map bv) (by simp [be4]; unfold maxLen; omega))
 have H7 : Hid (Step [] [] w (w6.alloc (.cells #[.int .u8 ((lob (wshr x 24)).toNat : Int), .int .u8 ((lob (wshr x 16)).toNat : Int), .int .u8 ((lob (wshr x 8)).toNat : Int), .int .u8 ((lob x).toNat : Int)] 5))) := Lib.hid ((H6.out.alloc _).drop (by simp))
 have h4 : (be4 x).length = 4 := rfl
 rw [hcv2, Result.andThen_ok, Oper.upon_value]
 clear hcv2
 generalize w6.alloc (.cells #[.int .u8 ((lob (wshr x 24)).toNat : Int), .int .u8 ((lob (wshr x 16)).toNat : Int), .int .u8 ((lob (wshr x 8)).toNat : Int), .int .u8 ((lob x).toNat : Int)] 5) = V at *
 generalize be4 x = y at *
 go_wp2_with fail
 exact bodyPost_ret (results_tmp rfl _ _ _) rfl ⟨by rw [HT.out]; rfl, H7.out⟩

end Go.Proofs.YtjdgdmlhipbaaaaGreatDoor
namespace Go.Proofs.YtjdgdmlhipbaaaaGreatDoor
open Go.RowKit Go.Maps
set_option linter.unusedSimpArgs false
set_option linter.unusedVariables false
set_option maxRecDepth 100000

theorem srtext_len1 (st : RS) (m : Int) : (rtext st m).1.length ≤ st.s.length := (srtext_len st m).1
def wholeV (f t : List UInt8) : Sn × Bool := match wholeB f t with | some x => (x, true) | none => (sn0, false)
theorem wholeV_no {f t : List UInt8} (h : wholeB f t = none) : wholeV f t = (sn0, false) := by unfold wholeV; rw [h]
theorem wholeV_yes {f t : List UInt8} {x : Sn} (h : wholeB f t = some x) : wholeV f t = (x, true) := by unfold wholeV; rw [h]
structure WhH (w W : World) (rb rp sb : Nat) (r : RS) (x : Sn) : Prop where
 pr : Blk W rb 33 (snc sn0).toArray
 pp : Ref W rp r
 ps : Blk W sb 33 (snc x).toArray
 n1 : rb ≠ rp
 n2 : sb ≠ rp
 n3 : rb ≠ sb
 st : Step [] [sb, rp, rb] w W
section
variable {w W W1 : World} {rb rp sb : Nat} {r r' : RS} {x x' : Sn}
theorem WhH.read (h : WhH w W rb rp sb r x) (hR : Ref W1 rp r') (k : Step [rp] [rp] W W1) : WhH w W1 rb rp sb r' x :=
 ⟨h.pr.step k (by simpa using h.n1), hR, h.ps.step k (by simpa using h.n2), h.n1, h.n2, h.n3, h.st.trans (k.wide (by simp) (by intro j hj; exact .inl hj))⟩
theorem WhH.set (h : WhH w W rb rp sb r x) (v : Value) (j : Nat) (hx : Blk (W.setCell ⟨sb, j, none⟩ v) sb 33 (snc x').toArray) : WhH w (W.setCell ⟨sb, j, none⟩ v) rb rp sb r x' := by
 have k : Step [sb] [sb] W (W.setCell ⟨sb, j, none⟩ v) := (Step.refl [sb] W).setCell (.inl (by simp)) _
 exact ⟨h.pr.step k (by simpa using h.n3), h.pp.step k (by simpa using fun e => h.n2 e.symm), hx, h.n1, h.n2, h.n3, h.st.setCell (.inl (by simp)) _⟩
theorem WhH.quiet (h : WhH w W rb rp sb r x) {T : List Nat} (k : Step [] T W W1) : WhH w W1 rb rp sb r x :=
 ⟨h.pr.step k (by simp), h.pp.step k (by simp), h.ps.step k (by simp), h.n1, h.n2, h.n3, h.st.trans ((k.drop (S'' := []) (by simp)).keep _)⟩
end
set_option maxHeartbeats 4000000 in
theorem whole8_any (f t : List UInt8) (ht : t.length ≤ 8388608) (w : World) : Calls Tryz.prog 34 #[Str f, Str t] w fun e w' => e = .returned (.tuple #[snV (wholeV f t).1, .bool (wholeV f t).2]) ∧ Step [] [] w w' := by
 go_enter Tryz.func34, Tryz.ntmps34
 go_upto_region 1 with fail
 obtain ⟨rb, hrb⟩ : ∃ rb, rb = w.heap.size := ⟨_, rfl⟩
 obtain ⟨V, hV⟩ : ∃ V, V = w.alloc (.cells (snc sn0).toArray 33) := ⟨_, rfl⟩
 have HV : Hid (Blk V rb 33 (snc sn0).toArray ∧ Step [] [rb] w V) := by
  subst hV hrb
  exact ⟨Blk.new w _ _, (Step.refl [] w).hold _⟩
 change Code.wp _ _ _ _ (w.alloc (.cells (snc sn0).toArray 33))
 rw [← hV]
 try rw [← hrb]
 clear hV hrb
 by_cases h4 : t.length < 4
 ·have hd4 : decide ((t.length : Int) < 4) = true := decide_eq_true (by omega)
  have HN : Hid (wholeV f t = (sn0, false)) := Lib.hid (wholeV_no (by unfold wholeB; rw [if_pos h4]))
  go_wp2_with (refine wpList_storeRow (T := 33) (b := rb) (T' := 33) (cs := (snc sn0).toArray) (vs := (snc sn0).toArray) rfl (.tmp 4) (.tmp 11) rfl rfl rfl Tryz.sSnap HV.out.1 rfl (snc_one sn0) ?_; intro U ub uk)
  exact bodyPost_ret (res_row2 rfl _ rfl Tryz.sSnap ub) rfl ⟨by rw [HN.out]; rfl, (HV.out.2.trans uk).drop (by simp)⟩
 have hd4 : decide ((t.length : Int) < 4) = false := decide_eq_false (by omega)
 have hle4 : (4 : Int) ≤ t.length := by omega
 have hl4 : 4 ≤ t.length := by omega
 have HW : Hid (wholeB f t = if rend (partsB (t.drop 4)).2 = 0 ∧ rightSn (partsB (t.drop 4)).1 = true ∧ fileB (partsB (t.drop 4)).1.i.toNat = f ∧ textB (partsB (t.drop 4)).1 = t then some (partsB (t.drop 4)).1 else none) := Lib.hid (by unfold wholeB; rw [if_neg h4])
 clear h4
 go_upto_region 5 with fail
 obtain ⟨rp, hrp⟩ : ∃ rp, rp = V.heap.size := ⟨_, rfl⟩
 obtain ⟨r0, hr0⟩ : ∃ r0 : RS, r0 = ⟨t.drop 4, false⟩ := ⟨_, rfl⟩
 obtain ⟨V2, hV2⟩ : ∃ V2, V2 = (V.alloc (.cells #[Str (t.drop 4), .bool false] 101)).alloc (.cells (snc sn0).toArray 33) := ⟨_, rfl⟩
 have H0 : Hid (WhH w V2 rb rp (rp + 1) r0 sn0) := by
  have h1 : (V.alloc (.cells #[Str (t.drop 4), .bool false] 101)).heap.size = V.heap.size + 1 := by simp
  have b2 := Blk.new (V.alloc (.cells #[Str (t.drop 4), .bool false] 101)) 33 (snc sn0).toArray
  have k2 := (HV.out.2.hold (.cells #[Str (t.drop 4), .bool false] 101)).hold (.cells (snc sn0).toArray 33)
  rw [h1] at b2 k2
  have hlt := HV.out.1.lt
  subst hV2 hrp hr0
  exact ⟨(HV.out.1.alloc _).alloc _, (Blk.new V _ _).alloc _, b2, by omega, by omega, by omega, k2⟩
 change Code.wp _ _ _ _ ((V.alloc (.cells #[Str (t.drop 4), .bool false] 101)).alloc (.cells (snc sn0).toArray 33))
 rw [← hV2]
 try rw [← hrp]
 obtain ⟨sb, hsb⟩ : ∃ sb, sb = rp + 1 := ⟨_, rfl⟩
 try rw [← hsb]
 rw [← hsb] at H0
 have hL0 : r0.s.length ≤ 8388608 := by subst hr0; simp; omega
 have HRO := Lib.hid hr0
 clear hV2 hrp hsb hr0 HV hd4
 have cc := H0.out.ps.cell
 have f0 := cc 0
 have f1 := cc 1
 have f2 := cc 2
 clear cc
 simp only [snc, List.getElem?_toArray, List.getElem?_cons_zero, List.getElem?_cons_succ] at f0 f1 f2
 have cc := H0.out.ps.cell
 have f0 := cc 0
 have f1 := cc 1
 have f2 := cc 2
 clear cc
 simp only [snc, List.getElem?_toArray, List.getElem?_cons_zero, List.getElem?_cons_succ] at f0 f1 f2
 go_wp2_with fail
 have hc := refNum_any rp r0 4611686018427387903 V2 H0.out.pp (by omega)
 obtain ⟨yi, hyi⟩ : ∃ z, z = (upto r0 4611686018427387903).1 := ⟨_, rfl⟩
 obtain ⟨r1, hr1⟩ : ∃ z, z = (upto r0 4611686018427387903).2 := ⟨_, rfl⟩
 have hLr1 : r1.s.length ≤ 8388608 := by rw [hr1]; exact Nat.le_trans (rnum_len r0) hL0
 have HE0 : Hid ((upto r0 4611686018427387903) = (yi, r1)) := Lib.hid (by rw [hyi, hr1])
 have hc := hc
 rw [← hyi, ← hr1] at hc
 refine hc.mono ?_
 rintro e w3 ⟨rfl, h31, h32⟩
 have H1 := Lib.hid (H0.out.read h31 h32)
 clear h31 h32 H0 hc hyi hr1 f0 f1 f2
 have cc := H1.out.ps.cell
 have f0 := cc 0
 have f1 := cc 1
 have f2 := cc 2
 clear cc
 simp only [snc, List.getElem?_toArray, List.getElem?_cons_zero, List.getElem?_cons_succ] at f0 f1 f2
 have ff := H1.out.ps.frozen 0
 have fl := H1.out.ps.lt
 go_upto_region 6 with fail
 obtain ⟨w3X, hX⟩ : ∃ z, z = w3.setCell ⟨sb, 0, none⟩ (.int .i64 yi) := ⟨_, rfl⟩
 have H2 : Hid (WhH w w3X rb rp sb r1 ⟨yi, 0, []⟩) := by
  subst hX
  exact H1.out.set _ 0 (Blk.set H1.out.ps 0 _)
 rw [← hX]
 clear hX H1 ff fl f0 f1 f2
 have cc := H2.out.ps.cell
 have f0 := cc 0
 have f1 := cc 1
 have f2 := cc 2
 clear cc
 simp only [snc, List.getElem?_toArray, List.getElem?_cons_zero, List.getElem?_cons_succ] at f0 f1 f2
 go_wp2_with fail
 have hc := refNum_any rp r1 4611686018427387903 w3X H2.out.pp (by omega)
 obtain ⟨yt, hyt⟩ : ∃ z, z = (upto r1 4611686018427387903).1 := ⟨_, rfl⟩
 obtain ⟨r2, hr2⟩ : ∃ z, z = (upto r1 4611686018427387903).2 := ⟨_, rfl⟩
 have hLr2 : r2.s.length ≤ 8388608 := by rw [hr2]; exact Nat.le_trans (rnum_len r1) hLr1
 have HE2 : Hid ((upto r1 4611686018427387903) = (yt, r2)) := Lib.hid (by rw [hyt, hr2])
 have hc := hc
 rw [← hyt, ← hr2] at hc
 refine hc.mono ?_
 rintro e w5 ⟨rfl, h31, h32⟩
 have H3 := Lib.hid (H2.out.read h31 h32)
 clear h31 h32 H2 hc hyt hr2 f0 f1 f2
 have cc := H3.out.ps.cell
 have f0 := cc 0
 have f1 := cc 1
 have f2 := cc 2
 clear cc
 simp only [snc, List.getElem?_toArray, List.getElem?_cons_zero, List.getElem?_cons_succ] at f0 f1 f2
 have ff := H3.out.ps.frozen 1
 have fl := H3.out.ps.lt
 go_upto_region 7 with fail
 obtain ⟨w5X, hX⟩ : ∃ z, z = w5.setCell ⟨sb, 1, none⟩ (.int .i64 yt) := ⟨_, rfl⟩
 have H4 : Hid (WhH w w5X rb rp sb r2 ⟨yi, yt, []⟩) := by
  subst hX
  exact H3.out.set _ 1 (Blk.set H3.out.ps 1 _)
 rw [← hX]
 clear hX H3 ff fl f0 f1 f2
 have cc := H4.out.ps.cell
 have f0 := cc 0
 have f1 := cc 1
 have f2 := cc 2
 clear cc
 simp only [snc, List.getElem?_toArray, List.getElem?_cons_zero, List.getElem?_cons_succ] at f0 f1 f2
 go_wp2_with fail
 have hc := refText_any rp r2 1048576 w5X H4.out.pp (by omega)
 obtain ⟨yd, hyd⟩ : ∃ z, z = (rtext r2 1048576).1 := ⟨_, rfl⟩
 obtain ⟨r3, hr3⟩ : ∃ z, z = (rtext r2 1048576).2 := ⟨_, rfl⟩
 have hLr3 : r3.s.length ≤ 8388608 := by rw [hr3]; exact Nat.le_trans ((srtext_len r2 1048576).2) hLr2
 have HE4 : Hid ((rtext r2 1048576) = (yd, r3)) := Lib.hid (by rw [hyd, hr3])
 have hc := hc
 rw [← hyd, ← hr3] at hc
 refine hc.mono ?_
 rintro e w7 ⟨rfl, h31, h32⟩
 have H5 := Lib.hid (H4.out.read h31 h32)
 clear h31 h32 H4 hc hyd hr3 f0 f1 f2
 have cc := H5.out.ps.cell
 have f0 := cc 0
 have f1 := cc 1
 have f2 := cc 2
 clear cc
 simp only [snc, List.getElem?_toArray, List.getElem?_cons_zero, List.getElem?_cons_succ] at f0 f1 f2
 have ff := H5.out.ps.frozen 2
 have fl := H5.out.ps.lt
 go_upto_region 8 with fail
 obtain ⟨w7X, hX⟩ : ∃ z, z = w7.setCell ⟨sb, 2, none⟩ (Str yd) := ⟨_, rfl⟩
 have H6 : Hid (WhH w w7X rb rp sb r3 ⟨yi, yt, yd⟩) := by
  subst hX
  exact H5.out.set _ 2 (Blk.set H5.out.ps 2 _)
 rw [← hX]
 clear hX H5 ff fl f0 f1 f2
 have hyd : yd.length ≤ 8388608 := by
  have h1 := congrArg Prod.fst HE4.out
  have h2 := (srtext_len r2 1048576).1
  have h3 : (rtext r2 1048576).1.length ≤ r2.s.length := srtext_len1 r2 1048576
  simp only at h1
  rw [h1] at h3
  omega
 obtain ⟨x, hx⟩ : ∃ x : Sn, x = ⟨yi, yt, yd⟩ := ⟨_, rfl⟩
 have hxd : x.dt.length ≤ 8388608 := by rw [hx]; exact hyd
 have HP : Hid (partsB (t.drop 4) = (x, r3)) := Lib.hid (by
  unfold partsB rnum
  simp only
  rw [← HRO.out, HE0.out]
  simp only
  rw [HE2.out]
  simp only
  rw [HE4.out, hx])
 rw [← hx] at H6
 rw [HP.out] at HW
 clear hx HE0 HE2 HE4 HRO hyd hL0
 obtain ⟨W, hWW⟩ : ∃ W, W = w7X := ⟨_, rfl⟩
 rw [← hWW] at H6 ⊢
 clear hWW
 by_cases h0 : rend r3 = 0
 case neg =>
  have q0' : (rend r3 == 0) = false := by simpa using h0
  have HN : Hid (wholeV f t = (sn0, false)) := Lib.hid (wholeV_no (by rw [HW.out]; rw [if_neg (by simp [h0])]))
  clear h0
  go_wp2_with fail
  refine (refDone_any rp r3 W H6.out.pp (by omega)).mono ?_
  rintro e w8 ⟨rfl, rfl⟩
  have HZ : Hid (Blk W rb 33 (snc sn0).toArray ∧ Step [] [rb] w W) := Lib.hid ⟨H6.out.pr, H6.out.st.drop (by simp)⟩
  go_wp2_with (refine wpList_storeRow (T := 33) (b := rb) (T' := 33) (cs := (snc sn0).toArray) (vs := (snc sn0).toArray) rfl (.tmp 4) (.tmp 42) rfl rfl rfl Tryz.sSnap HZ.out.1 rfl (snc_one sn0) ?_; intro U ub uk)
  exact bodyPost_ret (res_row2 rfl _ rfl Tryz.sSnap ub) rfl ⟨by rw [HN.out]; rfl, (HZ.out.2.trans uk).drop (by simp)⟩
 have q0' : (rend r3 == 0) = true := by simpa using h0
 have HQ0 := Lib.hid h0
 clear h0
 have cc := H6.out.ps.cell
 have f0 := cc 0
 have f1 := cc 1
 have f2 := cc 2
 clear cc
 simp only [snc, List.getElem?_toArray, List.getElem?_cons_zero, List.getElem?_cons_succ] at f0 f1 f2
 go_wp2_with fail
 refine (refDone_any rp r3 W H6.out.pp (by omega)).mono ?_
 rintro e w8 ⟨rfl, rfl⟩
 go_wp2_with fail
 clear q0'
 refine (ref08Right_any x W (by omega)).mono ?_
 rintro e w8 ⟨rfl, k8⟩
 have H8 := Lib.hid (H6.out.quiet k8)
 clear k8 H6 f0 f1 f2
 by_cases h1 : rightSn x = true
 case neg =>
  have HN : Hid (wholeV f t = (sn0, false)) := Lib.hid (wholeV_no (by rw [HW.out]; rw [if_neg (by simp [h1])]))
  rw [show rightSn x = false by simpa using h1]
  clear h1
  have HZ : Hid (Blk w8 rb 33 (snc sn0).toArray ∧ Step [] [rb] w w8) := Lib.hid ⟨H8.out.pr, H8.out.st.drop (by simp)⟩
  go_wp2_with (refine wpList_storeRow (T := 33) (b := rb) (T' := 33) (cs := (snc sn0).toArray) (vs := (snc sn0).toArray) rfl (.tmp 4) (.tmp 42) rfl rfl rfl Tryz.sSnap HZ.out.1 rfl (snc_one sn0) ?_; intro U ub uk)
  exact bodyPost_ret (res_row2 rfl _ rfl Tryz.sSnap ub) rfl ⟨by rw [HN.out]; rfl, (HZ.out.2.trans uk).drop (by simp)⟩
 have HR1 := Lib.hid (rightSn_iff.1 h1)
 have HQ1 := Lib.hid h1
 rw [h1]
 clear h1
 obtain ⟨n, hn⟩ : ∃ n : Nat, x.i = n := ⟨x.i.toNat, by have := HR1.out.i; omega⟩
 have hn2 : n ≤ 1099511627776 := by have := HR1.out.i; omega
 have cc := H8.out.ps.cell
 have f0 := cc 0
 have f1 := cc 1
 have f2 := cc 2
 clear cc
 simp only [snc, List.getElem?_toArray, List.getElem?_cons_zero, List.getElem?_cons_succ] at f0 f1 f2
 rw [hn] at f0
 go_wp2_with fail
 refine (rfile_any n hn2 w8).mono ?_
 rintro e w9 ⟨rfl, k9⟩
 have H9 := Lib.hid (H8.out.quiet k9)
 clear k9 H8 f0 f1 f2
 obtain ⟨fb, hfb⟩ : ∃ fb, fb = fileB n := ⟨_, rfl⟩
 have HFB : Hid (fb = fileB x.i.toNat) := Lib.hid (by rw [hfb, hn]; rfl)
 rw [← hfb]
 clear hfb hn
 by_cases h2 : fb = f
 case neg =>
  have HN : Hid (wholeV f t = (sn0, false)) := Lib.hid (wholeV_no (by rw [HW.out]; rw [if_neg (by simp [← HFB.out, h2])]))
  have q2 : (fb == f) = false := by simpa using h2
  clear h2
  have HZ : Hid (Blk w9 rb 33 (snc sn0).toArray ∧ Step [] [rb] w w9) := Lib.hid ⟨H9.out.pr, H9.out.st.drop (by simp)⟩
  go_wp2_with (refine wpList_storeRow (T := 33) (b := rb) (T' := 33) (cs := (snc sn0).toArray) (vs := (snc sn0).toArray) rfl (.tmp 4) (.tmp 42) rfl rfl rfl Tryz.sSnap HZ.out.1 rfl (snc_one sn0) ?_; intro U ub uk)
  exact bodyPost_ret (res_row2 rfl _ rfl Tryz.sSnap ub) rfl ⟨by rw [HN.out]; rfl, (HZ.out.2.trans uk).drop (by simp)⟩
 have q2 : (fb == f) = true := by simpa using h2
 have HQ2 := Lib.hid h2
 clear h2
 have cc := H9.out.ps.cell
 have f0 := cc 0
 have f1 := cc 1
 have f2 := cc 2
 clear cc
 simp only [snc, List.getElem?_toArray, List.getElem?_cons_zero, List.getElem?_cons_succ] at f0 f1 f2
 go_wp2_with fail
 refine (rtext8_any x HR1.out w9).mono ?_
 rintro e w10 ⟨rfl, k9⟩
 have HA := Lib.hid (H9.out.quiet k9)
 clear k9 H9 f0 f1 f2 q2
 obtain ⟨tb, htb⟩ : ∃ tb, tb = textB x := ⟨_, rfl⟩
 rw [← htb]
 have HTB := Lib.hid htb
 clear htb
 by_cases h3 : tb = t
 case neg =>
  have HN : Hid (wholeV f t = (sn0, false)) := Lib.hid (wholeV_no (by rw [HW.out]; rw [if_neg (by simp [← HTB.out, h3])]))
  have q3 : (tb == t) = false := by simpa using h3
  clear h3
  have HZ : Hid (Blk w10 rb 33 (snc sn0).toArray ∧ Step [] [rb] w w10) := Lib.hid ⟨HA.out.pr, HA.out.st.drop (by simp)⟩
  go_wp2_with (refine wpList_storeRow (T := 33) (b := rb) (T' := 33) (cs := (snc sn0).toArray) (vs := (snc sn0).toArray) rfl (.tmp 4) (.tmp 42) rfl rfl rfl Tryz.sSnap HZ.out.1 rfl (snc_one sn0) ?_; intro U ub uk)
  exact bodyPost_ret (res_row2 rfl _ rfl Tryz.sSnap ub) rfl ⟨by rw [HN.out]; rfl, (HZ.out.2.trans uk).drop (by simp)⟩
 have q3 : (tb == t) = true := by simpa using h3
 have HY : Hid (wholeV f t = (x, true)) := Lib.hid (wholeV_yes (by rw [HW.out, if_pos ⟨HQ0.out, HQ1.out, by rw [← HFB.out]; exact HQ2.out, by rw [← HTB.out]; exact h3⟩]))
 clear h3
 have cc := HA.out.ps.cell
 have f0 := cc 0
 have f1 := cc 1
 have f2 := cc 2
 clear cc
 simp only [snc, List.getElem?_toArray, List.getElem?_cons_zero, List.getElem?_cons_succ] at f0 f1 f2
 go_wp2_with (refine wpList_storeRow (T := 33) (b := rb) (T' := 33) (cs := (snc sn0).toArray) (vs := (snc x).toArray) rfl (.tmp 4) (.tmp 43) rfl rfl rfl Tryz.sSnap HA.out.pr rfl (snc_one x) ?_; intro U ub uk)
 exact bodyPost_ret (res_row2 rfl _ rfl Tryz.sSnap ub) rfl ⟨by rw [HY.out]; rfl, (HA.out.st.trans (uk.wide (T := [sb, rp, rb]) (by simp) (by intro j hj; exact .inl hj))).drop (by simp)⟩

end Go.Proofs.YtjdgdmlhipbaaaaGreatDoor
