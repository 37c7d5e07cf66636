/-
 shot.read: a file's snapshot, if that is whole.
-/
import Derived.Test.YtjdgdmlhipbaaaaGreatDoorZGA
import Derived.Test.YtjdgdmlhipbaaaaGreatDoorZGB
import Derived.Test.YtjdgdmlhipbaaaaGreatDoorZGN
import Derived.Test.YtjdgdmlhipbaaaaGreatDoorZGM
import Derived.Test.YtjdgdmlhipbaaaaGreatDoorZGK
namespace Go.Proofs.YtjdgdmlhipbaaaaGreatDoor
open Go.RowKit
set_option linter.unusedSimpArgs false
set_option linter.unusedVariables false
set_option maxRecDepth 100000

def rdS (s : St) (f : List UInt8) : Sn × Bool := match (if (readS s f).2 = 0 then wholeB f (readS s f).1 else none) with | some x => (x, true) | none => (sn0, false)
theorem rdS_no {s : St} {f : List UInt8} (h : (readS s f).2 ≠ 0 ∨ wholeB f (readS s f).1 = none) : rdS s f = (sn0, false) := by
 unfold rdS
 rcases h with h | h
 ·rw [if_neg h]
 ·rw [h]; simp
theorem rdS_yes {s : St} {f : List UInt8} {x : Sn} (h : (readS s f).2 = 0) (h2 : wholeB f (readS s f).1 = some x) : rdS s f = (x, true) := by
 unfold rdS
 rw [if_pos h, h2]
theorem readS_len {s : St} (h : StB s) (f : List UInt8) : (readS s f).1.length ≤ 8388608 := by
 unfold readS
 split
 ·simp
 ·split
  ·simp
  ·rename_i x hx
   have h1 := used_mem (eget_mem hx).1
   have := h.used
   rw [List.length_append]
   omega
theorem srtake_len (st : RS) (n : Nat) : (rtake st n).1.length ≤ st.s.length ∧ (rtake st n).2.s.length ≤ st.s.length := by
 unfold rtake
 split
 ·simp [rfail]
 ·simp; omega
theorem srtext_len (st : RS) (m : Int) : (rtext st m).1.length ≤ st.s.length ∧ (rtext st m).2.s.length ≤ st.s.length := by
 have h1 := srtake_len (upto st m).2 (upto st m).1.toNat
 have h2 := upto_len st m
 unfold rtext
 omega
theorem rnum_len (st : RS) : (rnum st).2.s.length ≤ st.s.length := upto_len st _
theorem Tryz.sSnap : StructOf Tryz.prog 33 3 := ⟨by kernel_rfl, _, Tryz.underlying33⟩
theorem sfile_any (i : Int) (h0 : 0 ≤ i) (h1 : i ≤ 1099511627776) (w : World) (hT : PTab w) : Calls Tryz.prog 26 #[.int .i64 i] w fun e w' => e = .returned (Str (fileB i.toNat)) ∧ Step [] [] w w' := by
 have := file_any i.toNat (by omega) w hT
 rwa [Int.toNat_of_nonneg h0] at this
set_option maxHeartbeats 4000000 in
theorem sread_any (f : List UInt8) (w : World) (S : List Nat) (d : Nat) (s : St) (h : Dk w S d s) (hB : StB s) (hx : f.length ≤ 1099511627776) (hT : PTab w) :
  Calls Tryz.prog 27 #[.pointer (some ⟨d, 0, none⟩), Str f] w fun e w' => e = .returned (.tuple #[snV (rdS s f).1, .bool (rdS s f).2]) ∧ Step [] [] w w' := by
 have htl := readS_len hB f
 have HX := Lib.hid (And.intro h (And.intro hB hT))
 clear h hB hT
 go_enter Tryz.func27, Tryz.ntmps27
 go_upto_region 1 with fail
 obtain ⟨rb, hrb⟩ : ∃ rb, rb = w.heap.size := ⟨_, rfl⟩
 obtain ⟨V, hV⟩ : ∃ V, V = w.alloc (.cells (snc sn0).toArray 33) := ⟨_, rfl⟩
 have HV : Hid (Blk V rb 33 (snc sn0).toArray ∧ Step [] [rb] w V) := by
  subst hV hrb
  exact ⟨Blk.new w _ _, (Step.refl [] w).hold _⟩
 have HD : Hid (Dk V S d s) := by subst hV; exact HX.out.1.step ((Step.refl [] w).alloc _) (by simp)
 change Code.wp _ _ _ _ (w.alloc (.cells (snc sn0).toArray 33))
 rw [← hV, ← hrb]
 clear hV hrb
 go_wp2_with fail
 refine (dread_any f V S d s HD.out HX.out.2.1 hx).mono ?_
 rintro e w1 ⟨rfl, hs1⟩
 have H1 : Hid (Blk w1 rb 33 (snc sn0).toArray ∧ Step [] [rb] w w1) := Lib.hid ⟨HV.out.1.step hs1 (by simp), HV.out.2.trans (hs1.keep _)⟩
 clear hs1 HV HD
 obtain ⟨t, ht⟩ : ∃ t, t = (readS s f).1 := ⟨_, rfl⟩
 obtain ⟨c, hc⟩ : ∃ c, c = (readS s f).2 := ⟨_, rfl⟩
 rw [← ht] at htl
 rw [← ht, ← hc]
 have HR := Lib.hid (And.intro ht hc)
 clear ht hc
 by_cases hc0 : c = 0
 ·have hd : decide (c = 0) = true := decide_eq_true hc0
  have HC := Lib.hid hc0
  clear hc0
  by_cases h4 : t.length < 4
  ·have hd4 : decide ((t.length : Int) < 4) = true := decide_eq_true (by omega)
   have HN : Hid (rdS s f = (sn0, false)) := Lib.hid (rdS_no (.inr (by unfold wholeB; rw [← HR.out.1, if_pos h4])))
   go_wp2_with (refine wpList_storeRow (T := 33) (b := rb) (T' := 33) (cs := (snc sn0).toArray) (vs := (snc sn0).toArray) rfl (.tmp 4) (.tmp 23) rfl rfl rfl Tryz.sSnap H1.out.1 rfl (snc_one sn0) ?_; intro U ub uk)
   exact bodyPost_ret (res_row2 rfl _ rfl Tryz.sSnap ub) rfl ⟨by rw [HN.out]; rfl, (H1.out.2.trans uk).drop (by simp)⟩
  ·have hd4 : decide ((t.length : Int) < 4) = false := decide_eq_false (by omega)
   have hle4 : (4 : Int) ≤ t.length := by omega
   have hl4 : 4 ≤ t.length := by omega
   have HW : Hid (wholeB f t = if rend (partsB (t.drop 4)).2 = 0 ∧ rightSn (partsB (t.drop 4)).1 = true ∧ fileB (partsB (t.drop 4)).1.i.toNat = f ∧ textB (partsB (t.drop 4)).1 = t then some (partsB (t.drop 4)).1 else none) := Lib.hid (by unfold wholeB; rw [if_neg h4])
   clear h4
   go_wp2_with fail
   refine (read_any (t.drop 4) w1).mono ?_
   rintro e w2 ⟨rfl, hw2⟩
   obtain ⟨rp, hrp⟩ : ∃ rp, rp = w1.heap.size := ⟨_, rfl⟩
   rw [← hrp]
   obtain ⟨r0, hr0⟩ : ∃ r0 : RS, r0 = ⟨t.drop 4, false⟩ := ⟨_, rfl⟩
   have H2 : Hid (Blk w2 rb 33 (snc sn0).toArray ∧ Rdr w2 rp r0 ∧ rb ≠ rp ∧ Step [] [rp, rb] w w2) := by
    have h1 := H1.out.1.lt
    subst hw2 hrp hr0
    exact ⟨H1.out.1.alloc _, Blk.new w1 _ _, by omega, H1.out.2.hold _⟩
   have hL0 : r0.s.length ≤ 8388608 := by subst hr0; simp; omega
   have HRO := Lib.hid hr0
   clear hw2 hrp hr0 H1
   have c0 := H2.out.2.1.c0
   have c1 := H2.out.2.1.c1
   clear c0 c1
   go_wp2_with fail
   refine (rnum_any rp r0 w2 H2.out.2.1 (by omega)).mono ?_
   rintro e w3 ⟨rfl, h31, h32⟩
   have hL1 := Nat.le_trans (rnum_len r0) hL0
   have H3 : Hid (Blk w3 rb 33 (snc sn0).toArray ∧ Rdr w3 rp (rnum r0).2 ∧ rb ≠ rp ∧ Step [] [rp, rb] w w3) := Lib.hid ⟨H2.out.1.step h32 (by simpa using H2.out.2.2.1), h31, H2.out.2.2.1, H2.out.2.2.2.trans (h32.frameR [rb])⟩
   clear h31 h32 H2
   go_wp2_with fail
   refine (rnum_any rp (rnum r0).2 w3 H3.out.2.1 (by omega)).mono ?_
   rintro e w4 ⟨rfl, h31, h32⟩
   have hL2 := Nat.le_trans (rnum_len (rnum r0).2) hL1
   have H4 : Hid (Blk w4 rb 33 (snc sn0).toArray ∧ Rdr w4 rp (rnum (rnum r0).2).2 ∧ rb ≠ rp ∧ Step [] [rp, rb] w w4) := Lib.hid ⟨H3.out.1.step h32 (by simpa using H3.out.2.2.1), h31, H3.out.2.2.1, H3.out.2.2.2.trans (h32.frameR [rb])⟩
   clear h31 h32 H3
   go_wp2_with fail
   refine (rtext_any rp (rnum (rnum r0).2).2 1048576 w4 H4.out.2.1 (by omega)).mono ?_
   rintro e w5 ⟨rfl, h31, h32⟩
   have hL3 := Nat.le_trans (srtext_len (rnum (rnum r0).2).2 1048576).1 hL2
   have H5 : Hid (Blk w5 rb 33 (snc sn0).toArray ∧ Rdr w5 rp (rtext (rnum (rnum r0).2).2 1048576).2 ∧ rb ≠ rp ∧ Step [] [rp, rb] w w5) := Lib.hid ⟨H4.out.1.step h32 (by simpa using H4.out.2.2.1), h31, H4.out.2.2.1, H4.out.2.2.2.trans (h32.frameR [rb])⟩
   clear h31 h32 H4
   obtain ⟨x, hx1⟩ : ∃ x : Sn, x = ⟨(rnum r0).1, (rnum (rnum r0).2).1, (rtext (rnum (rnum r0).2).2 1048576).1⟩ := ⟨_, rfl⟩
   obtain ⟨r3, hr3⟩ : ∃ r3, r3 = (rtext (rnum (rnum r0).2).2 1048576).2 := ⟨_, rfl⟩
   have hi := congrArg Sn.i hx1
   have ht := congrArg Sn.t hx1
   have hdt := congrArg Sn.dt hx1
   simp only at hi ht hdt
   rw [← hr3] at H5
   rw [← hdt] at hL3
   rw [← hi, ← ht, ← hdt]
   have HP : Hid (partsB (t.drop 4) = (x, r3)) := Lib.hid (by rw [hx1, hr3, HRO.out]; rfl)
   clear hi ht hdt hx1 hr3 hL0 hL1 hL2 HRO
   rw [HP.out] at HW
   go_upto_region 6 with fail
   obtain ⟨xb, hxb⟩ : ∃ xb, xb = w5.heap.size := ⟨_, rfl⟩
   obtain ⟨V6, hV6⟩ : ∃ V6, V6 = w5.alloc (.cells (snc x).toArray 33) := ⟨_, rfl⟩
   have H6 : Hid (Blk V6 rb 33 (snc sn0).toArray ∧ Rdr V6 rp r3 ∧ Blk V6 xb 33 (snc x).toArray ∧ xb ≠ rb ∧ Step [] [rp, rb] w V6) := by
    have h1 := H5.out.1.lt
    subst hV6 hxb
    exact ⟨H5.out.1.alloc _, H5.out.2.1.step ((Step.refl [] w5).alloc _) (by simp), Blk.new w5 _ _, by omega, H5.out.2.2.2.alloc _⟩
   change Code.wp _ _ _ _ (w5.alloc (.cells (snc x).toArray 33))
   rw [← hV6, ← hxb]
   clear hV6 hxb H5
   by_cases h0 : rend r3 = 0
   ·have q0 : (rend r3 != 0) = false := by simpa using h0
    have q0' : (rend r3 == 0) = true := by simpa using h0
    have HQ0 := Lib.hid h0
    clear h0
    have H7 : Hid (Blk V6 rb 33 (snc sn0).toArray ∧ Blk V6 xb 33 (snc x).toArray ∧ Step [] [rp, rb] w V6 ∧ PTab V6) := Lib.hid ⟨H6.out.1, H6.out.2.2.1, H6.out.2.2.2.2, HX.out.2.2.step H6.out.2.2.2.2⟩
    have cc := H7.out.2.1.cell
    have cx0 := cc 0
    have cx1 := cc 1
    have cx2 := cc 2
    clear cc
    simp only [snc, List.getElem?_toArray, List.getElem?_cons_zero, List.getElem?_cons_succ] at cx0 cx1 cx2
    go_wp2_with fail
    refine (end_any rp r3 V6 H6.out.2.1).mono ?_
    rintro e w7 ⟨rfl, rfl⟩
    go_wp2_with fail
    refine (sright_any x V6 (by omega)).mono ?_
    rintro e w8 ⟨rfl, k8⟩
    have H8 : Hid (Blk w8 rb 33 (snc sn0).toArray ∧ Blk w8 xb 33 (snc x).toArray ∧ Step [] [rp, rb] w w8 ∧ PTab w8) := Lib.hid ⟨H7.out.1.step k8 (by simp), H7.out.2.1.step k8 (by simp), H7.out.2.2.1.trans (k8.keep _), H7.out.2.2.2.step k8⟩
    clear k8 H7 H6 cx0 cx1 cx2
    by_cases h1 : rightSn x = true
    ·have HR1 := Lib.hid (rightSn_iff.1 h1)
     have q1 : (!(rightSn x)) = false := by rw [h1]; rfl
     have HQ1 := Lib.hid h1
     rw [h1]
     clear h1 q1
     have cc := H8.out.2.1.cell
     have cx0 := cc 0
     have cx1 := cc 1
     have cx2 := cc 2
     clear cc
     simp only [snc, List.getElem?_toArray, List.getElem?_cons_zero, List.getElem?_cons_succ] at cx0 cx1 cx2
     go_wp2_with fail
     refine (sfile_any x.i HR1.out.i.1 HR1.out.i.2 w8 H8.out.2.2.2).mono ?_
     rintro e w9 ⟨rfl, k9⟩
     have H9 : Hid (Blk w9 rb 33 (snc sn0).toArray ∧ Blk w9 xb 33 (snc x).toArray ∧ Step [] [rp, rb] w w9) := Lib.hid ⟨H8.out.1.step k9 (by simp), H8.out.2.1.step k9 (by simp), H8.out.2.2.1.trans (k9.keep _)⟩
     clear k9 H8 cx0 cx1 cx2
     obtain ⟨fb, hfb⟩ : ∃ fb, fb = fileB x.i.toNat := ⟨_, rfl⟩
     rw [← hfb]
     have HFB := Lib.hid hfb
     clear hfb
     by_cases h2 : fb = f
     ·have HQ2 := Lib.hid h2
      have q2 : (fb == f) = true := by simpa using h2
      clear h2
      have cc := H9.out.2.1.cell
      have cx0 := cc 0
      have cx1 := cc 1
      have cx2 := cc 2
      clear cc
      simp only [snc, List.getElem?_toArray, List.getElem?_cons_zero, List.getElem?_cons_succ] at cx0 cx1 cx2
      go_wp2_with fail
      refine (stext_any x HR1.out w9).mono ?_
      rintro e w10 ⟨rfl, k9⟩
      have HA : Hid (Blk w10 rb 33 (snc sn0).toArray ∧ Blk w10 xb 33 (snc x).toArray ∧ Step [] [rp, rb] w w10) := Lib.hid ⟨H9.out.1.step k9 (by simp), H9.out.2.1.step k9 (by simp), H9.out.2.2.trans (k9.keep _)⟩
      clear k9 H9 cx0 cx1 cx2
      obtain ⟨tb, htb⟩ : ∃ tb, tb = textB x := ⟨_, rfl⟩
      rw [← htb]
      have HTB := Lib.hid htb
      clear htb
      by_cases h3 : tb = t
      ·have q3 : (tb == t) = true := by simpa using h3
       have HY : Hid (rdS s f = (x, true)) := Lib.hid (rdS_yes (by rw [← HR.out.2]; exact HC.out) (by rw [← HR.out.1, HW.out, if_pos ⟨HQ0.out, HQ1.out, by rw [← HFB.out]; exact HQ2.out, by rw [← HTB.out]; exact h3⟩]))
       clear h3
       have cc := HA.out.2.1.cell
       have cx0 := cc 0
       have cx1 := cc 1
       have cx2 := cc 2
       clear cc
       simp only [snc, List.getElem?_toArray, List.getElem?_cons_zero, List.getElem?_cons_succ] at cx0 cx1 cx2
       go_wp2_with (refine wpList_storeRow (T := 33) (b := rb) (T' := 33) (cs := (snc sn0).toArray) (vs := (snc x).toArray) rfl (.tmp 4) (.tmp 56) rfl rfl rfl Tryz.sSnap HA.out.1 rfl (snc_one x) ?_; intro U ub uk)
       exact bodyPost_ret (res_row2 rfl _ rfl Tryz.sSnap ub) rfl ⟨by rw [HY.out]; rfl, (HA.out.2.2.trans (uk.frame [rp])).drop (by simp)⟩
      ·have q3 : (tb == t) = false := by simpa using h3
       have HN : Hid (rdS s f = (sn0, false)) := Lib.hid (rdS_no (.inr (by rw [← HR.out.1, HW.out]; simp [← HTB.out, h3])))
       clear h3
       have HZ : Hid (Blk w10 rb 33 (snc sn0).toArray ∧ Step [] [rb] w w10) := Lib.hid ⟨HA.out.1, HA.out.2.2.drop (by simp)⟩
       go_wp2_with (refine wpList_storeRow (T := 33) (b := rb) (T' := 33) (cs := (snc sn0).toArray) (vs := (snc sn0).toArray) rfl (.tmp 4) (.tmp 55) rfl rfl rfl Tryz.sSnap HZ.out.1 rfl (snc_one sn0) ?_; intro U ub uk)
       exact bodyPost_ret (res_row2 rfl _ rfl Tryz.sSnap ub) rfl ⟨by rw [HN.out]; rfl, (HZ.out.2.trans uk).drop (by simp)⟩
     ·have HN : Hid (rdS s f = (sn0, false)) := Lib.hid (rdS_no (.inr (by rw [← HR.out.1, HW.out]; simp [← HFB.out, h2])))
      have q2 : (fb == f) = false := by simpa using h2
      clear h2
      have HZ : Hid (Blk w9 rb 33 (snc sn0).toArray ∧ Step [] [rb] w w9) := Lib.hid ⟨H9.out.1, H9.out.2.2.drop (by simp)⟩
      go_wp2_with (refine wpList_storeRow (T := 33) (b := rb) (T' := 33) (cs := (snc sn0).toArray) (vs := (snc sn0).toArray) rfl (.tmp 4) (.tmp 55) rfl rfl rfl Tryz.sSnap HZ.out.1 rfl (snc_one sn0) ?_; intro U ub uk)
      exact bodyPost_ret (res_row2 rfl _ rfl Tryz.sSnap ub) rfl ⟨by rw [HN.out]; rfl, (HZ.out.2.trans uk).drop (by simp)⟩
    ·have HN : Hid (rdS s f = (sn0, false)) := Lib.hid (rdS_no (.inr (by rw [← HR.out.1, HW.out]; simp [h1])))
     rw [show rightSn x = false by simpa using h1]
     clear h1
     have HZ : Hid (Blk w8 rb 33 (snc sn0).toArray ∧ Step [] [rb] w w8) := Lib.hid ⟨H8.out.1, H8.out.2.2.1.drop (by simp)⟩
     go_wp2_with (refine wpList_storeRow (T := 33) (b := rb) (T' := 33) (cs := (snc sn0).toArray) (vs := (snc sn0).toArray) rfl (.tmp 4) (.tmp 55) rfl rfl rfl Tryz.sSnap HZ.out.1 rfl (snc_one sn0) ?_; intro U ub uk)
     exact bodyPost_ret (res_row2 rfl _ rfl Tryz.sSnap ub) rfl ⟨by rw [HN.out]; rfl, (HZ.out.2.trans uk).drop (by simp)⟩

   ·have q0 : (rend r3 != 0) = true := by simpa using h0
    have q0' : (rend r3 == 0) = false := by simpa using h0
    have HN : Hid (rdS s f = (sn0, false)) := Lib.hid (rdS_no (.inr (by rw [← HR.out.1, HW.out]; simp [h0])))
    clear h0
    go_wp2_with fail
    refine (end_any rp r3 V6 H6.out.2.1).mono ?_
    rintro e w7 ⟨rfl, rfl⟩
    have HZ : Hid (Blk V6 rb 33 (snc sn0).toArray ∧ Step [] [rb] w V6) := Lib.hid ⟨H6.out.1, H6.out.2.2.2.2.drop (by simp)⟩
    go_wp2_with (refine wpList_storeRow (T := 33) (b := rb) (T' := 33) (cs := (snc sn0).toArray) (vs := (snc sn0).toArray) rfl (.tmp 4) (.tmp 55) rfl rfl rfl Tryz.sSnap HZ.out.1 rfl (snc_one sn0) ?_; intro U ub uk)
    exact bodyPost_ret (res_row2 rfl _ rfl Tryz.sSnap ub) rfl ⟨by rw [HN.out]; rfl, (HZ.out.2.trans uk).drop (by simp)⟩
 ·have hd : decide (c = 0) = false := decide_eq_false hc0
  have hd2 : (c != 0) = true := by simpa using hc0
  have hd3 : (c == 0) = false := by simpa using hc0
  have HN : Hid (rdS s f = (sn0, false)) := Lib.hid (rdS_no (.inl (by rw [← HR.out.2]; exact hc0)))
  clear hc0
  go_wp2_with (refine wpList_storeRow (T := 33) (b := rb) (T' := 33) (cs := (snc sn0).toArray) (vs := (snc sn0).toArray) rfl (.tmp 4) (.tmp 23) rfl rfl rfl Tryz.sSnap H1.out.1 rfl (snc_one sn0) ?_; intro U ub uk)
  exact bodyPost_ret (res_row2 rfl _ rfl Tryz.sSnap ub) rfl ⟨by rw [HN.out]; rfl, (H1.out.2.trans uk).drop (by simp)⟩
end Go.Proofs.YtjdgdmlhipbaaaaGreatDoor
