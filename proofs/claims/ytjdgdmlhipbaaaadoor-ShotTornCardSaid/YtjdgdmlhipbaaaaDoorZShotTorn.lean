/-
 ShotTorn: a snapshot's file that is cut anywhere, or has a bit turned, counts no more. The row lists the library's tables as Go lays them. No condition beyond the row's.
-/
import Derived.Test.YtjdgdmlhipbaaaaDoorZGK
import Derived.Test.YtjdgdmlhipbaaaaDoorZGE
import Derived.Test.YtjdgdmlhipbaaaaDoorZGJ
namespace Go.Proofs.YtjdgdmlhipbaaaaDoor
open Go.RowKit Go.Lib Go.ChangeShapes Go.WideShapes Go.ChangeAt
set_option linter.unusedSimpArgs false
set_option linter.unusedVariables false
set_option maxRecDepth 100000

theorem xor_bit (c : UInt8) (j : Nat) (h : j < 8) : bits BinOp.xor IntKind.u8 (c.toNat : Int) (2 ^ j % 256) = ((c ^^^ UInt8.ofNat (2 ^ j)).toNat : Int) := by
 have : ∀ j, j < 8 → (2 ^ j % 256 : Int) = ((UInt8.ofNat (2 ^ j)).toNat : Int) := by decide
 rw [this j h, bxor_byte]
theorem bit_ne (c : UInt8) (j : Nat) (h : j < 8) : c ≠ c ^^^ UInt8.ofNat (2 ^ j) := by
 intro e
 have h1 : c ^^^ c = c ^^^ (c ^^^ UInt8.ofNat (2 ^ j)) := congrArg (c ^^^ ·) e
 rw [← UInt8.xor_assoc, UInt8.xor_self, UInt8.zero_xor] at h1
 have : ∀ j, j < 8 → (0 : UInt8) ≠ UInt8.ofNat (2 ^ j) := by decide
 exact this j h h1
set_option maxHeartbeats 4000000 in
theorem torn08_any (s : Sn) (x : Int) (bit : Nat) (w : World) (hT : PTab w) (hU : Tabs w) (hl : s.dt.length ≤ 140737488351232) (hx : -9223372036854775808 ≤ x ∧ x < 9223372036854775808) (hbit : bit < 256) : Calls Tryd.prog 5 #[snV s, .int .i64 x, .int .u8 (bit : Int)] w fun e w' => e = .returned (.bool true) ∧ Step [] [] w w' := by
 have HT := Lib.hid (And.intro hT hU)
 have HB := Lib.hid hl
 clear hT hU
 go_enter Tryd.func5, Tryd.ntmps5
 go_upto_region 1 with fail
 obtain ⟨b, hb⟩ : ∃ b, b = w.heap.size := ⟨_, rfl⟩
 obtain ⟨V, hV⟩ : ∃ V, V = w.alloc (.cells (snc s).toArray 29) := ⟨_, rfl⟩
 have H1 : Hid (Blk V b 29 (snc s).toArray ∧ Step [] [] w V) := by
  subst hV hb
  exact ⟨Blk.new w _ _, (Step.refl [] w).alloc _⟩
 change Code.wp _ _ _ _ (w.alloc (.cells (snc s).toArray 29))
 rw [← hV]
 try rw [← hb]
 clear hV hb
 go_wp2_with fail
 refine (awake08_true V (HT.out.1.step H1.out.2) (HT.out.2.step H1.out.2)).mono ?_
 rintro e W ⟨rfl, hw⟩
 have H2 : Hid (Blk W b 29 (snc s).toArray ∧ Step [] [] w W) := Lib.hid ⟨H1.out.1.step hw (by simp), H1.out.2.trans hw⟩
 clear hw H1
 have fc := H2.out.1.cell
 have f0 := fc 0
 have f1 := fc 1
 have f2 := fc 2
 clear fc
 simp only [snc, List.getElem?_toArray, List.getElem?_cons_zero, List.getElem?_cons_succ] at f0 f1 f2
 by_cases hbig : (5000 : Int) < s.dt.length
 ·have hbd : decide ((5000 : Int) < s.dt.length) = true := decide_eq_true hbig
  clear hbig
  go_wp2_with fail
  exact bodyPost_ret (results_tmp rfl _ _ _) rfl ⟨rfl, H2.out.2⟩
 have hbd : decide ((5000 : Int) < s.dt.length) = false := decide_eq_false hbig
 go_wp2_with fail
 refine (ref08Right_any s W hl).mono ?_
 rintro e W1 ⟨rfl, st1⟩
 have H3 : Hid (Blk W1 b 29 (snc s).toArray ∧ Step [] [] w W1) := Lib.hid ⟨H2.out.1.step st1 (by simp), H2.out.2.trans st1⟩
 clear st1 H2 f0 f1 f2
 by_cases hr : rightSn s = true
 case neg =>
  have hr' : rightSn s = false := by simpa using hr
  rw [hr']
  go_wp2_with fail
  exact bodyPost_ret (results_tmp rfl _ _ _) rfl ⟨rfl, H3.out.2⟩
 case pos =>
  have HR : Hid (RSn s) := Lib.hid (rightSn_iff.1 hr)
  rw [hr]
  clear hr hbd
  go_wp2_with fail
  refine (snew_ok 8388608 W1 (by decide)).mono ?_
  rintro e w1 ⟨S1, d, rfl, hd1, st1⟩
  have H1 : Hid (Dk w1 S1 d (newS 8388608) ∧ Step [] S1 w w1 ∧ Blk w1 b 29 (snc s).toArray ∧ b ∉ S1) := Lib.hid ⟨hd1, H3.out.2.trans st1, H3.out.1.step st1 (by simp), st1.notin H3.out.1.lt (by simp)⟩
  clear hd1 st1 H3
  have fc := H1.out.2.2.1.cell
  have f0 := fc 0
  have f1 := fc 1
  have f2 := fc 2
  clear fc
  simp only [snc, List.getElem?_toArray, List.getElem?_cons_zero, List.getElem?_cons_succ] at f0 f1 f2
  go_wp2_with fail
  have hc := save_any s w1 S1 d (newS 8388608) H1.out.1 0 (ok_new (by decide)) (by omega) w HT.out.1 HT.out.2 H1.out.2.1 hl
  rw [save_new HR.out (by have := (text_len HR.out).1; omega)] at hc
  refine hc.mono ?_
  rintro e w2 ⟨rfl, S2, hd2, st2⟩
  have H2 : Hid (Dk w2 S2 d (oneS 8388608 s) ∧ Step [] S2 w w2 ∧ Blk w2 b 29 (snc s).toArray ∧ b ∉ S2) := Lib.hid ⟨hd2, H1.out.2.1.trans st2, H1.out.2.2.1.step st2 H1.out.2.2.2, st2.notin H1.out.2.2.1.lt H1.out.2.2.2⟩
  clear hd2 st2 hc H1
  clear f0 f1 f2
  obtain ⟨f, hf⟩ : ∃ f, f = fileB s.i.toNat := ⟨_, rfl⟩
  have HF := Lib.hid hf
  have HO : Hid (Ok6 (oneS 8388608 s) 1) := Lib.hid (by
   have h := ok_save (s := newS 8388608) (ok_new (by decide)) (by simp [ERis, newS]) s (by omega)
   rwa [save_new HR.out (by have := (text_len HR.out).1; omega)] at h)
  have hfl : f.length ≤ 1099511627776 := by rw [hf, fileB_len]; omega
  clear hf
  go_wp2_with fail
  have hc := names_any w2 S2 d (oneS 8388608 s) H2.out.1 HO.out.b
  rw [show namesS (oneS 8388608 s) = [f] from by rw [HF.out]; rfl] at hc
  refine hc.mono ?_
  rintro e w3 ⟨a3, cap3, rfl, hrow3, st3⟩
  have H3 : Hid (Dk w3 S2 d (oneS 8388608 s) ∧ Step [] S2 w w3 ∧ Blk w3 b 29 (snc s).toArray ∧ b ∉ S2) := Lib.hid ⟨H2.out.1.keep st3, (H2.out.2.1.trans ((st3.drop (S'' := []) (by simp)).keep _)), H2.out.2.2.1.step st3 (by simp), H2.out.2.2.2⟩
  obtain ⟨g, off, rfl⟩ := hrow3.some_of_pos (by simp)
  have cn : w3.cell? ⟨g, off, none⟩ = some (Str f) := hrow3.rd.cell g off none rfl 0 _ rfl
  clear hrow3 st3 hc H2
  simp only [List.length_cons, List.length_nil, Nat.zero_add]
  go_wp2_with fail
  clear cn
  have hc := dread_any f w3 S2 d (oneS 8388608 s) H3.out.1 HO.out.b hfl
  rw [torn_one s, ← HF.out, torn_read, List.append_nil] at hc
  refine hc.mono ?_
  rintro e w4 ⟨rfl, st4⟩
  have H4 : Hid (Dk w4 S2 d (oneS 8388608 s) ∧ Step [] S2 w w4 ∧ Blk w4 b 29 (snc s).toArray ∧ b ∉ S2) := Lib.hid ⟨H3.out.1.keep st4, (H3.out.2.1.trans ((st4.drop (S'' := []) (by simp)).keep _)), H3.out.2.2.1.step st4 (by simp), H3.out.2.2.2⟩
  clear st4 hc H3
  obtain ⟨t, ht⟩ : ∃ t, t = textB s := ⟨_, rfl⟩
  have HTX := Lib.hid ht
  have htl : 4 < t.length ∧ t.length ≤ 1048607 := by rw [ht]; have := text_len HR.out; omega
  rw [← ht]
  clear ht
  by_cases ha0 : x < 0
  ·have hd0 : decide (x < 0) = true := decide_eq_true ha0
   go_wp2_with fail
   exact bodyPost_ret (results_tmp rfl _ _ _) rfl ⟨rfl, H4.out.2.1.drop (by simp)⟩
  have hd0 : decide (x < 0) = false := decide_eq_false ha0
  obtain ⟨k, rfl⟩ : ∃ k : Nat, x = k := ⟨x.toNat, by omega⟩
  by_cases ha1 : t.length ≤ k
  ·have hd1 : decide ((t.length : Int) ≤ (k : Int)) = true := decide_eq_true (by omega)
   have hd2 : decide (t.length ≤ k) = true := decide_eq_true ha1
   go_wp2_with fail
   exact bodyPost_ret (results_tmp rfl _ _ _) rfl ⟨rfl, H4.out.2.1.drop (by simp)⟩
  have hd1 : decide ((t.length : Int) ≤ (k : Int)) = false := decide_eq_false (by omega)
  have hd2 : decide (t.length ≤ k) = false := decide_eq_false ha1
  have hkt : k < t.length := by omega
  go_wp2_with fail
  have hc := dcut_any f (k : Int) w4 S2 d (oneS 8388608 s) H4.out.1 HO.out.b hfl
  rw [torn_one s, ← HF.out, ← HTX.out, torn_cut (by omega)] at hc
  refine hc.mono ?_
  rintro e w5 ⟨rfl, S5, hd5, st5⟩
  have H5 : Hid (Dk w5 S5 d (tornS f (t.take k) []) ∧ Step [] S5 w w5 ∧ Blk w5 b 29 (snc s).toArray ∧ b ∉ S5) := Lib.hid ⟨hd5, H4.out.2.1.trans st5, H4.out.2.2.1.step st5 H4.out.2.2.2, st5.notin H4.out.2.2.1.lt H4.out.2.2.2⟩
  clear hd5 st5 hc H4
  have HO5 : Hid (Ok6 (tornS f (t.take k) []) 1) := Lib.hid (by
   have h := ok_cut HO.out f (k : Int)
   rwa [torn_one s, ← HF.out, ← HTX.out, torn_cut (by omega)] at h)
  go_wp2_with fail
  have hc := load_any w5 S5 d (tornS f (t.take k) []) H5.out.1 1 HO5.out (HT.out.1.step H5.out.2.1)
  rw [torn_none (by rw [HTX.out, List.append_nil]; exact whole_cut HR.out f (by rw [← HTX.out]; omega))] at hc
  refine hc.mono ?_
  rintro e w6 ⟨rfl, st6⟩
  have H6 : Hid (Dk w6 S5 d (tornS f (t.take k) []) ∧ Step [] S5 w w6 ∧ Blk w6 b 29 (snc s).toArray ∧ b ∉ S5) := Lib.hid ⟨H5.out.1.keep st6, (H5.out.2.1.trans ((st6.drop (S'' := []) (by simp)).keep _)), H5.out.2.2.1.step st6 (by simp), H5.out.2.2.2⟩
  clear st6 hc H5
  go_upto_region 13 with fail
  obtain ⟨tb, htb⟩ : ∃ tb, tb = w6.heap.size := ⟨_, rfl⟩
  obtain ⟨w7, hV⟩ : ∃ V, V = w6.alloc (.cells (snc sn0).toArray 29) := ⟨_, rfl⟩
  have H7 : Hid (Dk w7 S5 d (tornS f (t.take k) []) ∧ Step [] S5 w w7 ∧ Blk w7 b 29 (snc s).toArray ∧ b ∉ S5) := by
   subst hV htb
   exact ⟨H6.out.1.keep ((Step.refl [] w6).alloc _), H6.out.2.1.alloc _, H6.out.2.2.1.alloc _, H6.out.2.2.2⟩
  change Code.wp _ _ _ _ (w6.alloc (.cells (snc sn0).toArray 29))
  rw [← hV]
  try rw [← htb]
  clear hV htb H6
  go_wp2_with fail
  obtain ⟨c, u, hcu⟩ : ∃ c u, t.drop k = c :: u := by
   cases hq : t.drop k with
   | nil => have := congrArg List.length hq; simp at this; omega
   | cons c u => exact ⟨c, u, rfl⟩
  have hul : u.length ≤ 1048607 := by have := congrArg List.length hcu; simp at this; omega
  have HCU := Lib.hid hcu
  rw [hcu]
  clear hcu
  obtain ⟨rb, cap, w8, hcv, hrow, hst, hg⟩ := run_row_of_str (P := Tryd.prog) (w := w7) 9 41 5 (c :: u) Tryd.underlying9 Tryd.underlying41 Tryd.underlying5 (by unfold maxLen; simp; omega)
  rw [hcv, Result.andThen_ok, Oper.upon_value]
  have H8 : Hid (Dk w8 S5 d (tornS f (t.take k) []) ∧ Step [] S5 w w8 ∧ Blk w8 b 29 (snc s).toArray ∧ b ∉ S5) := Lib.hid ⟨H7.out.1.keep hst, (H7.out.2.1.trans ((hst.drop (S'' := []) (by simp)).keep _)), H7.out.2.2.1.step hst (by simp), H7.out.2.2.2⟩
  have hrb : rb ∉ S5 := fun hm => by have := H7.out.1.lt _ hm; omega
  have hrb2 : rb ≠ b := fun hm => by have := H7.out.2.2.1.lt; omega
  have hrb3 : w.heap.size ≤ rb := by have := H7.out.2.1.size; omega
  have HRW := Lib.hid (And.intro hrow (And.intro hrb (And.intro hrb2 hrb3)))
  clear hrow hst hcv hg H7 hrb hrb2 hrb3
  have z0 : w8.cell? ⟨rb, 0, none⟩ = some (.int .u8 (c.toNat : Int)) := (HRW.out.1.cell rfl 0 (by simp)).1.trans rfl
  have z1 : w8.frozen? ⟨rb, 0, none⟩ = false := (HRW.out.1.cell rfl 0 (by simp)).2.1
  obtain ⟨j, hj⟩ : ∃ j, j = bit % 8 := ⟨_, rfl⟩
  have hj8 : j < 8 := by omega
  have hm8 : (bit : Int).tmod 8 = (j : Int) := by rw [hj]; exact (Int.ofNat_tmod bit 8).symm
  clear hj
  obtain ⟨c2, hc2⟩ : ∃ c2, c2 = c ^^^ UInt8.ofNat (2 ^ j) := ⟨_, rfl⟩
  have hbx : bits BinOp.xor IntKind.u8 (c.toNat : Int) (2 ^ j % 256) = (c2.toNat : Int) := by rw [hc2, xor_bit c j hj8]
  have HNE : Hid (c ≠ c2) := Lib.hid (by rw [hc2]; exact bit_ne c j hj8)
  clear hc2
  go_upto_region 15 with fail
  try rw [hbx]
  clear hbx hm8 z0 z1
  obtain ⟨w9, hw9⟩ : ∃ w9, w9 = w8.setCell ⟨rb, 0, none⟩ (.int .u8 (c2.toNat : Int)) := ⟨_, rfl⟩
  have H9 : Hid (Dk w9 S5 d (tornS f (t.take k) []) ∧ Step [] S5 w w9 ∧ Blk w9 b 29 (snc s).toArray ∧ b ∉ S5) := by
   subst hw9
   have k2 : Step [rb] [rb] w8 (w8.setCell ⟨rb, 0, none⟩ (.int .u8 (c2.toNat : Int))) := (Step.refl [rb] w8).setCell (.inl (by simp)) _
   exact ⟨H8.out.1.step k2 (fun x hx hm => by simp at hm; subst hm; exact HRW.out.2.1 hx), H8.out.2.1.setCell (.inr HRW.out.2.2.2) _, H8.out.2.2.1.step k2 (by simp; exact fun e => HRW.out.2.2.1 e.symm), H8.out.2.2.2⟩
  have HR9 : Hid (Row w9 1 (some ⟨rb, 0, none⟩) (u.length + 1) cap ((c2 :: u).map bv)) := by
   subst hw9
   exact HRW.out.1.set rfl 0 (by simp) (.int .u8 (c2.toNat : Int))
  rw [← hw9]
  clear hw9 H8 HRW
  have hs := run_str_of_row 41 9 5 Tryd.underlying41 Tryd.underlying5 Tryd.underlying9 HR9.out
  go_wp2_with fail
  clear hs HR9
  have hc := append_any f (c2 :: u) w9 S5 d (tornS f (t.take k) []) H9.out.1 HO5.out.b (HT.out.2.step H9.out.2.1) ⟨hfl, by simp; omega⟩
  rw [torn_append (by rw [HF.out]; exact fileB_right _) (by simp; omega)] at hc
  refine hc.mono ?_
  rintro e w10 ⟨rfl, S10, hd10, st10⟩
  have H10 : Hid (Dk w10 S10 d (tornS f (t.take k) (c2 :: u)) ∧ Step [] S10 w w10 ∧ Blk w10 b 29 (snc s).toArray ∧ b ∉ S10) := Lib.hid ⟨hd10, H9.out.2.1.trans st10, H9.out.2.2.1.step st10 H9.out.2.2.2, st10.notin H9.out.2.2.1.lt H9.out.2.2.2⟩
  clear hd10 st10 hc H9
  have HO10 : Hid (Ok6 (tornS f (t.take k) (c2 :: u)) 2) := Lib.hid (by
   have h := ok_append HO5.out (by simp [ERis, tornS]) f (c2 :: u) hfl (by omega)
   rwa [torn_append (by rw [HF.out]; exact fileB_right _) (by simp; omega)] at h)
  have HW : Hid (wholeB f (t.take k ++ c2 :: u) = none) := Lib.hid (whole_turned HR.out f (a := t.take k) (c := c) (rest := u) (by rw [← HTX.out, ← HCU.out, List.take_append_drop]) HNE.out)
  go_wp2_with fail
  have hc := load_any w10 S10 d (tornS f (t.take k) (c2 :: u)) H10.out.1 2 HO10.out (HT.out.1.step H10.out.2.1)
  rw [torn_none HW.out] at hc
  refine hc.mono ?_
  rintro e w11 ⟨rfl, st11⟩
  have H11 : Hid (Dk w11 S10 d (tornS f (t.take k) (c2 :: u)) ∧ Step [] S10 w w11 ∧ Blk w11 b 29 (snc s).toArray ∧ b ∉ S10) := Lib.hid ⟨H10.out.1.keep st11, (H10.out.2.1.trans ((st11.drop (S'' := []) (by simp)).keep _)), H10.out.2.2.1.step st11 (by simp), H10.out.2.2.2⟩
  clear st11 hc H10
  go_upto_region 17 with fail
  obtain ⟨tc, htc⟩ : ∃ tc, tc = w11.heap.size := ⟨_, rfl⟩
  obtain ⟨w12, hV⟩ : ∃ V, V = w11.alloc (.cells (snc sn0).toArray 29) := ⟨_, rfl⟩
  have H12 : Hid (Dk w12 S10 d (tornS f (t.take k) (c2 :: u)) ∧ Step [] S10 w w12 ∧ Blk w12 b 29 (snc s).toArray ∧ b ∉ S10) := by
   subst hV htc
   exact ⟨H11.out.1.keep ((Step.refl [] w11).alloc _), H11.out.2.1.alloc _, H11.out.2.2.1.alloc _, H11.out.2.2.2⟩
  change Code.wp _ _ _ _ (w11.alloc (.cells (snc sn0).toArray 29))
  rw [← hV]
  try rw [← htc]
  clear hV htc H11
  have fc := H12.out.2.2.1.cell
  have f0 := fc 0
  have f1 := fc 1
  have f2 := fc 2
  clear fc
  simp only [snc, List.getElem?_toArray, List.getElem?_cons_zero, List.getElem?_cons_succ] at f0 f1 f2
  go_wp2_with fail
  have hc := save_any s w12 S10 d (tornS f (t.take k) (c2 :: u)) H12.out.1 2 HO10.out (by omega) w HT.out.1 HT.out.2 H12.out.2.1 hl
  rw [HF.out, torn_save HR.out (by rw [← HF.out]; exact HW.out)] at hc
  refine hc.mono ?_
  rintro e w13 ⟨rfl, S13, hd13, st13⟩
  have H13 : Hid (Dk w13 S13 d (oneS 8388608 s) ∧ Step [] S13 w w13 ∧ Blk w13 b 29 (snc s).toArray ∧ b ∉ S13) := Lib.hid ⟨hd13, H12.out.2.1.trans st13, H12.out.2.2.1.step st13 H12.out.2.2.2, st13.notin H12.out.2.2.1.lt H12.out.2.2.2⟩
  clear hd13 st13 hc H12
  clear f0 f1 f2
  go_wp2_with fail
  have hc := load_any w13 S13 d (oneS 8388608 s) H13.out.1 1 HO.out (HT.out.1.step H13.out.2.1)
  rw [one_load _ HR.out] at hc
  refine hc.mono ?_
  rintro e w14 ⟨rfl, st14⟩
  have H14 : Hid (Dk w14 S13 d (oneS 8388608 s) ∧ Step [] S13 w w14 ∧ Blk w14 b 29 (snc s).toArray ∧ b ∉ S13) := Lib.hid ⟨H13.out.1.keep st14, (H13.out.2.1.trans ((st14.drop (S'' := []) (by simp)).keep _)), H13.out.2.2.1.step st14 (by simp), H13.out.2.2.2⟩
  clear st14 hc H13
  go_upto_region 20 with fail
  have HTD : Hid (Blk (w14.alloc (.cells (snc s).toArray 29)) w14.heap.size 29 (snc s).toArray) := Lib.hid (Blk.new w14 _ _)
  obtain ⟨td, htd⟩ : ∃ td, td = w14.heap.size := ⟨_, rfl⟩
  obtain ⟨w15, hV⟩ : ∃ V, V = w14.alloc (.cells (snc s).toArray 29) := ⟨_, rfl⟩
  have H15 : Hid (Dk w15 S13 d (oneS 8388608 s) ∧ Step [] S13 w w15 ∧ Blk w15 b 29 (snc s).toArray ∧ b ∉ S13) := by
   subst hV htd
   exact ⟨H14.out.1.keep ((Step.refl [] w14).alloc _), H14.out.2.1.alloc _, H14.out.2.2.1.alloc _, H14.out.2.2.2⟩
  rw [← hV, ← htd] at HTD
  change Code.wp _ _ _ _ (w14.alloc (.cells (snc s).toArray 29))
  rw [← hV]
  try rw [← htd]
  clear hV htd H14
  have fc := H15.out.2.2.1.cell
  have f0 := fc 0
  have f1 := fc 1
  have f2 := fc 2
  clear fc
  simp only [snc, List.getElem?_toArray, List.getElem?_cons_zero, List.getElem?_cons_succ] at f0 f1 f2
  have fc := HTD.out.cell
  have g0 := fc 0
  have g1 := fc 1
  have g2 := fc 2
  clear fc
  simp only [snc, List.getElem?_toArray, List.getElem?_cons_zero, List.getElem?_cons_succ] at g0 g1 g2
  go_wp2_with fail
  exact bodyPost_ret (results_tmp rfl _ _ _) rfl ⟨rfl, H15.out.2.1.drop (by simp)⟩
theorem ShotTorn_walk (v0 v1 v2 : Value) (w : World) {b0 : Nat} (h0 : Value.okWide Tryd.prog w .any b0 29 v0) (o0 : Op Tryd.prog w 29 v0.cells.toList) (h1 : Value.okWide Tryd.prog w .any b0 3 v1) (o1 : Op Tryd.prog w 3 v1.cells.toList) (h2 : Value.okWide Tryd.prog w .any b0 5 v2) (o2 : Op Tryd.prog w 5 v2.cells.toList) (hT : LTabs w) :
  Calls Tryd.prog 5 #[v0, v1, v2] w fun e w' => e = .returned (.bool true) ∧ Below w.heap.size w w' := by
 obtain ⟨o, rfl, hB⟩ := arg_sn h0 o0
 obtain ⟨x, rfl⟩ := okWide_int Tryd.underlying3 h1
 obtain ⟨x', e, hw⟩ := o1.int Tryd.underlying3
 simp [Value.cells] at e
 subst e
 have hw1 := wf_d hw
 obtain ⟨y, rfl⟩ := okWide_int Tryd.underlying5 h2
 obtain ⟨y', e, hw⟩ := o2.int Tryd.underlying5
 simp [Value.cells] at e
 subst e
 simp [Lit.wf, IntKind.min, IntKind.max, IntKind.signed, IntKind.bits] at hw
 obtain ⟨n, rfl⟩ : ∃ n : Nat, y = n := ⟨y.toNat, by omega⟩
 exact (torn08_any o x n w hT.pow hT.u8 hB.dt hw1 (by omega)).mono fun e w' ⟨h1, h2⟩ => ⟨h1, h2.below0⟩

set_option maxRecDepth 100000 in
theorem ShotTorn_lifted (os : Os) (started : os.Started) (H : Type) (enc : TypeId × Value → H) :
  ReturnsInHanded {} Tryd.checked os 5 .any (fun w args => (Rows.shotTornSpec.pre enc Tryd.prog Tryd.f5 [] false w args ∧ laidMetH Tryd.prog scrLaid w) ∧ sizedMet enc Tryd.prog Tryd.f5 (OpenSpec.ofChange Rows.shotTornSpec) false w args)
   (Rows.shotTornSpec.post enc Tryd.prog Tryd.f5 false true false false) := by
 refine returnsInHanded_of_change_tabs (C := Tryd.checked) (X := fun w _ => laidMetH Tryd.prog scrLaid w) (fun _ _ _ hh h => h.of_heap hh) (by kernel_rfl) started (by kernel_rfl) Tryd.func5
  (ChangeSpec.witness_shaped (enc := enc) (C := Tryd.checked) (os := os) (X := fun w _ => laidMetH Tryd.prog scrLaid w) false (World.laidAll Tryd.prog os scrLaid) #[.agg #[.int .i64 0, .int .i64 0, .string ⟨#[]⟩], .int .i64 0, .int .u8 0] 8 (World.laidAll_os _ _ _)
   (World.shaped_of_ZipB (by kernel_rfl) (by kernel_rfl)) (by kernel_rfl) (by kernel_rfl) (by kernel_rfl)
   (by rw [MakeChecks.laidMetH_plain _ _ _ (by kernel_rfl)]; exact laidMet_laidAll _ (by kernel_rfl) (by kernel_rfl))) ?_
 intro W base args ds gs before hval0 hW _ hsz0 hL hS _
 have hval : ∀ (j : Nat) t v, Tryd.f5.params[j]? = some t → args[j]? = some v → Value.okWide Tryd.prog W .any base t v := hval0
 have hsz : (DataW.weightsEach Tryd.prog (Tryd.f5.params.toList ++ Rows.shotTornSpec.plain.varTypes Tryd.prog) (ds ++ gs)).all (· ≤ reachBytes) = true := hsz0
 have hW' := hW
 have hT := stabs_of hL hS
 obtain ⟨p, q, hA0, hV, rfl, _, _⟩ := hW
 have hA : DataW.TrodAll enc Tryd.prog W 0 (fun _ => true) true Tryd.f5.params.toList args.toList ds p := hA0
 rw [Tryd.params5] at hA hval hsz
 obtain ⟨v0, vs0, d0, ds0, p0, q0, hargs, rfl, rfl, h0, r0⟩ := trodAll_cons hA
 obtain ⟨v1, vs1, d1, ds1, p1, q1, rfl, rfl, rfl, h1, r1⟩ := trodAll_cons r0
 obtain ⟨v2, vs2, d2, ds2, p2, q2, rfl, rfl, rfl, h2, r2⟩ := trodAll_cons r1
 obtain ⟨rfl, rfl, rfl⟩ := trodAll_nil r2
 obtain rfl : args = #[v0, v1, v2] := by cases args; simp_all
 obtain ⟨rfl, rfl⟩ := trodVars_none hV
 have lt0 : ∀ x ∈ p0, x.block < W.heap.size := by obtain ⟨m, hm⟩ := h0; exact DataW.trod_lt m _ _ _ hm
 have o0 := op_of hsz (j := 0) rfl rfl h0
 have lt1 : ∀ x ∈ p1, x.block < W.heap.size := by obtain ⟨m, hm⟩ := h1; exact DataW.trod_lt m _ _ _ hm
 have o1 := op_of hsz (j := 1) rfl rfl h1
 have lt2 : ∀ x ∈ p2, x.block < W.heap.size := by obtain ⟨m, hm⟩ := h2; exact DataW.trod_lt m _ _ _ hm
 have o2 := op_of hsz (j := 2) rfl rfl h2
 refine (ShotTorn_walk v0 v1 v2 W (hval 0 _ v0 rfl rfl) o0 (hval 1 _ v1 rfl rfl) o1 (hval 2 _ v2 rfl rfl) o2 hT).mono fun e W' ⟨he, bel⟩ => ?_
 subst he
 exact ⟨_, rfl, _, _, _, [], _, [], hW', trodAll_mk1 (shut_bool Tryd.underlying4 _), (trodAll_cons_mk (Below.trod (by kernel_rfl) (by kernel_rfl) (of_decide_eq_true (by kernel_rfl)) h0 bel lt0) (trodAll_cons_mk (Below.trod (by kernel_rfl) (by kernel_rfl) (of_decide_eq_true (by kernel_rfl)) h1 bel lt1) (trodAll_cons_mk (Below.trod (by kernel_rfl) (by kernel_rfl) (of_decide_eq_true (by kernel_rfl)) h2 bel lt2) trodAll_mk0))), rfl, bel.frame _, fun h => by cases h⟩

/-- The row's statement. -/
theorem ShotTorn_row : Rows.ShotTornSaid :=
 OpenClaim.holds_of_wide 5 Tryd.f5 rfl rfl rfl rfl rfl rfl rfl ⟨rfl, rfl, rfl, rfl, rfl⟩ rfl rfl rfl rfl rfl (by kernel_rfl) Tryd.func5 (by kernel_rfl)
  (of_decide_eq_true (by kernel_rfl)) (by unfold Func.isWrapper; rw [if_neg (of_decide_eq_false (by kernel_rfl))]; exact ⟨rfl, rfl⟩)
  (fun os started H enc _ => ShotTorn_lifted os started H enc)
/-- The card. -/
theorem ShotTorn_holds : Rows.ShotTornCardSaid :=
 Claim7.holds_tied_plain_at .later [] [.data, .data, .data, .data, .pinned] true Rows.shotTornCard.stood.harness false
  ShotTorn_row (fun _ h => by cases h) (by kernel_rfl) (fun _ h => by cases h) shotTorn_row_tie rfl ⟨rfl, rfl⟩ (by kernel_rfl) rfl
  (fun f fn hf hfn => by
   obtain rfl : f = 5 := Option.some.inj ((show Tryd.prog.funcNamed "exchequer/exchequerlaw08.ShotTorn" = some 5 by kernel_rfl).symm.trans hf) |>.symm
   obtain rfl : fn = Tryd.f5 := (Option.some.inj (Tryd.func5.symm.trans hfn)).symm
   exact ⟨by kernel_rfl, fun j t ht => by
    rw [Tryd.params5] at ht
    have hm : t ∈ [29, 3, 5] := by simpa using Array.mem_of_getElem? ht
    have hall : ([29, 3, 5].all fun u => !Tryd.prog.wantsStandIn u) = true := by kernel_rfl
    exact (show Tryd.prog.wantsStandIn t = false by simpa using List.all_eq_true.1 hall t hm)⟩)
  (by kernel_rfl)
#print axioms ShotTorn_holds
end Go.Proofs.YtjdgdmlhipbaaaaDoor
