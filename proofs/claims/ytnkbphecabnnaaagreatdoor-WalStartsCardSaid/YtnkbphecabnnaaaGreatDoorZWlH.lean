/-
 wal.Open. Conditions: the library's table; a disk that the operations keep, with at most 1000 files, each named as a segment.
-/
import Derived.Test.YtnkbphecabnnaaaGreatDoorZGU
namespace Go.Proofs.YtnkbphecabnnaaaGreatDoor
open Go.RowKit Go.Lib Go.Maps
set_option linter.unusedSimpArgs false
set_option linter.unusedVariables false
set_option maxRecDepth 100000

/-- At the head of the first loop. -/
structure Op1 (w W : World) (S0 S : List Nat) (d b : Nat) (s : St) (sa : Option Addr) (all : List Nat) (j f : Nat) : Prop where
 w : OpW w W S0 S d b ⟨f, 0, 0, false⟩ s sa all none 0 []
 f : f = (all.take j).foldl (fun a n => if begB (textW s n) = none then a else n) 0
/-- At the head of the second one. -/
structure Op2 (w W : World) (S0 : List Nat) (d b : Nat) (s : St) (sa : Option Addr) (all : List Nat) (first j : Nat) (a : Option Addr) (cap : Nat) (o : OpS) (k : Nat) : Prop where
 w : ∃ S, OpW w W S0 S d b ⟨first, o.last, o.size, false⟩ o.s sa all a cap o.out
 ok : Ok6 o.s k
 nm : NmW o.s.E
 e : openS s = opE first (opLoop first (all.drop j) o)
theorem wrecords_zero (s : List UInt8) (hs : s.length ≤ 8388608) (w : World) : Calls Tryz.prog 32 #[Str s, .int .i64 0] w (RcsP s 0 w) := wrecords_any s 0 (Nat.zero_le _) hs w
theorem foldl_take (g : Nat → Nat → Nat) (l : List Nat) (j n z : Nat) (h : l[j]? = some n) : (l.take (j + 1)).foldl g z = g ((l.take j).foldl g z) n := by
 rw [List.take_add_one, h, List.foldl_append]
 rfl
theorem drop_get {l : List Nat} {j n : Nat} (h : l[j]? = some n) : l.drop j = n :: l.drop (j + 1) := by
 obtain ⟨hj, e⟩ := List.getElem?_eq_some_iff.1 h
 rw [List.drop_eq_getElem_cons hj, e]
set_option maxHeartbeats 16000000 in
theorem wopen_any (w : World) (S : List Nat) (d : Nat) (s : St) (k : Nat) (h : Dk w S d s) (hO : Ok6 s k) (hk : k ≤ 1000) (hnm : NmW s.E) (w0 : World) (hT : PTab w0) (h0 : Step [] S w0 w) : Calls Tryz.prog 11 #[.pointer (some ⟨d, 0, none⟩)] w (OpnP (openS s) S d w) := by
 obtain ⟨i0, hi, hz0, hz1, hz2⟩ := info_parts Tryz.info_rec
 have HI := Lib.hid (And.intro hi (And.intro hz0 (And.intro hz1 hz2)))
 clear hi hz0 hz1 hz2
 have HX := Lib.hid (And.intro h (And.intro hO (And.intro hnm (And.intro hT h0))))
 clear h hO hnm hT h0
 go_enter Tryz.func11, Tryz.ntmps11
 go_wp2_with fail
 refine (dkdown_any w S d s HX.out.1).mono ?_
 rintro e w1 ⟨rfl, rfl⟩
 cases ho : s.off with
 | true =>
  have HD : Hid (openS s = (7, ⟨0, 0, 0, false⟩, [], s)) := Lib.hid (by unfold openS; rw [ho]; rfl)
  clear ho
  go_wp2_with fail
  refine bodyPost_ret (results_tmp3 rfl _ _ _) rfl ?_
  rw [HD.out]
  exact ⟨S, HX.out.1, Step.refl _ _, .inr ⟨by simp, rfl⟩⟩
 | false =>
  have HOF := Lib.hid ho
  have HS : Hid (openS s = opE (firstS s (segS s)) (opLoop (firstS s (segS s)) (segS s) (opFirst s))) := Lib.hid (openS_on ho)
  clear ho
  go_upto_region 4 with fail
  obtain ⟨b, hb⟩ : ∃ b, b = w.heap.size := ⟨_, rfl⟩
  obtain ⟨V, hV⟩ : ∃ V, V = w.alloc (.cells (wlc d ⟨0, 0, 0, false⟩) 66) := ⟨_, rfl⟩
  have H1 : Hid (Dk V S d s ∧ Blk V b 66 (wlc d ⟨0, 0, 0, false⟩) ∧ b ∉ S ∧ w.heap.size ≤ b ∧ Step S S w V) := by
   subst hV hb
   exact ⟨HX.out.1.keep ((Step.refl [] w).alloc _), Blk.new w _ _, fun hm => by have := HX.out.1.lt _ hm; omega, Nat.le_refl _, ((Step.refl [] w).alloc _).keep _⟩
  change Code.wp _ _ _ _ (w.alloc (.cells (wlc d ⟨0, 0, 0, false⟩) 66))
  rw [← hV]
  try rw [← hb]
  clear hV hb
  go_wp2_with fail
  refine (wsegments_any V S d s H1.out.1 HX.out.2.1.b HX.out.2.2.1).mono ?_
  rintro e w2 ⟨sa, scap, rfl, srow, sst⟩
  obtain ⟨all, hall⟩ : ∃ all, all = segS s := ⟨_, rfl⟩
  have HALL := Lib.hid hall
  rw [← hall] at srow ⊢
  have HN : Hid (∀ n, n ∈ all → 0 < n ∧ n ≤ 999999999999) := Lib.hid (by rw [hall]; exact segS_num HX.out.2.2.1)
  have hNl : all.length ≤ 1000 := by rw [hall]; exact Nat.le_trans (segS_le s) (Nat.le_trans HX.out.2.1.len hk)
  clear hall
  have sst0 : Step [] [] V w2 := sst.drop (by simp)
  have H2 : Hid (OpW w w2 S S d b ⟨0, 0, 0, false⟩ s sa all none 0 []) := Lib.hid ⟨H1.out.1.keep sst0, H1.out.2.1.step sst0 (by simp), srow.rd, Row.none _ _, H1.out.2.2.1,
   fun g hg => ⟨fun hm => by rcases sst.fresh g hg with h1 | h1; exact absurd h1 (by simp); have := H1.out.1.lt _ hm; omega, fun e => by rcases sst.fresh g hg with h1 | h1; exact absurd h1 (by simp); have := H1.out.2.1.lt; omega⟩,
   by simp [blks], H1.out.2.2.2.1, by simp [blks], srow.lt, H1.out.2.2.2.2.trans (sst0.keep _)⟩
  clear srow sst sst0 H1
  obtain ⟨N, hN⟩ : ∃ N, N = all.length := ⟨_, rfl⟩
  have HNN := Lib.hid hN
  rw [← hN] at hNl ⊢
  clear hN
  go_upto_block 0 with fail
  go_cut [] (fun Wx => ∃ f : Nat, f ≤ 999999999999 ∧ Hid (Op1 w Wx S S d b s sa all N f))
  case first =>
   go_wp2_with fail
   go_loopw [33] (fun i Wx => ∃ j f : Nat, i = .int .i64 j ∧ j ≤ N ∧ f ≤ 999999999999 ∧ Hid (Op1 w Wx S S d b s sa all j f)) (fun i _ => N - (intOf i).toNat)
   case atStart => exact ⟨0, 0, rfl, by omega, by omega, Lib.hid ⟨H2.out, rfl⟩⟩
   case round =>
    rename World => Wr
    obtain ⟨j, f, rfl, hj, hf, HW⟩ := hrel
    by_cases hlt : j < N
    ·have hlt' : (j : Int) < (N : Int) := by omega
     obtain ⟨n, hx⟩ : ∃ n, all[j]? = some n := ⟨_, List.getElem?_eq_getElem (by rw [← HNN.out]; exact hlt)⟩
     have hnb := HN.out n (List.mem_of_getElem? hx)
     have hrd := HW.out.w.sg
     obtain ⟨g, off, hs1⟩ := hrd.some_ (by rw [← HNN.out]; omega)
     have z0 : Wr.cell? ⟨g, off + j, none⟩ = some (.int .i64 (n : Int)) := hrd.cell g off none hs1 j _ (by unfold nvs; rw [List.getElem?_map, hx]; rfl)
     have gl : g < Wr.heap.size := by have := World.block_lt_of_cell? _ _ z0; simpa using this
     have HF1 := Lib.hid (foldl_take (fun a n => if begB (textW s n) = none then a else n) all j n 0 hx)
     have HXJ := Lib.hid hx
     have HSA := Lib.hid hs1
     subst hs1
     clear hx hrd
     go_wp2_with fail
     refine (wfile_any n hnb.2 Wr (HX.out.2.2.2.1.step (HX.out.2.2.2.2.trans HW.out.w.st))).mono ?_
     rintro e w3 ⟨rfl, k3⟩
     have H3 := Lib.hid (HW.out.w.quiet k3)
     clear k3 z0
     go_wp2_with fail
     refine (dread_any (fileW n) w3 S d s H3.out.dk HX.out.2.1.b (by rw [fileW_len]; omega)).mono ?_
     rintro e w4 ⟨rfl, k4⟩
     obtain ⟨t, ht⟩ : ∃ t, t = (readS s (fileW n)).1 := ⟨_, rfl⟩
     obtain ⟨te, hte⟩ : ∃ te, te = (readS s (fileW n)).2 := ⟨_, rfl⟩
     have htl : t.length ≤ 8388608 := by rw [ht]; exact readS_len HX.out.2.1.b _
     have HT : Hid (textW s n = t) := Lib.hid (by rw [ht]; rfl)
     rw [← ht, ← hte]
     clear ht hte
     have H4 := Lib.hid (H3.out.quiet k4)
     clear k4 H3
     go_wp2_with fail
     refine (wbegins_any t htl w4).mono ?_
     rintro e w5 ⟨rfl, k5⟩
     have H5 := Lib.hid (H4.out.quiet k5)
     clear k5 H4
     rw [HT.out] at HF1
     cases hbv : (begV t).2 with
     | false =>
      have HR : Hid (Op1 w w5 S S d b s (some ⟨g, off, none⟩) all (j + 1) f) := Lib.hid ⟨H5.out, by rw [HF1.out, ← HW.out.f, if_pos (by rw [begB_begV, hbv]; rfl)]⟩
      clear hbv HF1 H5 HW
      go_wp2_with fail
      go_roundw
      case rel => exact ⟨j + 1, f, by go_num, by omega, hf, HR⟩
      case measure => simp [intOf]; omega
     | true =>
      have hbl := H5.out.wl.lt
      have fz1 := H5.out.wl.frozen 1
      have c1 := H5.out.wl.cell 1
      simp only [wlc, List.getElem?_toArray, List.getElem?_cons_zero, List.getElem?_cons_succ] at c1
      have HR : Hid (Op1 w (w5.setCell ⟨b, 1, none⟩ (.int .i64 (n : Int))) S S d b s (some ⟨g, off, none⟩) all (j + 1) n) := Lib.hid ⟨H5.out.set (by simpa using H5.out.wl.set 1 (.int .i64 (n : Int))) ((Step.refl [b] w5).setCell (p := ⟨b, 1, none⟩) (.inl (by simp)) _), by rw [HF1.out, if_neg (by rw [begB_begV, hbv]; simp)]⟩
      clear hbv HF1 H5 HW
      go_wp2_with fail
      go_roundw
      case rel => exact ⟨j + 1, n, by go_num, by omega, hnb.2, HR⟩
      case measure => simp [intOf]; omega
    ·obtain rfl : j = N := by omega
     have hlt2 : ¬ (j : Int) < (j : Int) := by omega
     go_wp2_with fail
     go_meet
     exact ⟨f, hf, HW⟩
  case rest =>
   rename World => W2
   obtain ⟨f, hf, HC⟩ := hcut
   have HFI : Hid (firstS s (segS s) = f) := Lib.hid (by rw [HC.out.f, ← HALL.out, HNN.out, List.take_length]; rfl)
   obtain ⟨wh0, hwh⟩ : ∃ wh : Bool, wh = decide (0 < f) := ⟨_, rfl⟩
   have hwd : decide (0 < f) = wh0 := hwh.symm
   have hwd2 : decide ((0 : Int) < (f : Int)) = wh0 := by rw [hwh]; simp
   have HB : Hid (0 = ([] : List Rc).length ∧ Op2 w W2 S d b s sa all f 0 none 0 ⟨wh0, 0, 0, [], s⟩ k) := Lib.hid ⟨rfl, ⟨S, HC.out.w⟩, HX.out.2.1, HX.out.2.2.1, by
    rw [HS.out, HFI.out, ← HALL.out, List.drop_zero]
    unfold opFirst
    rw [HFI.out, hwh]⟩
   have c1 := HC.out.w.wl.cell 1
   simp only [wlc, List.getElem?_toArray, List.getElem?_cons_zero, List.getElem?_cons_succ] at c1
   clear hwh HC H2
   go_wp2_with fail
   clear hwd hwd2 c1
   go_loopw [62, 13, 14] (fun i v u Wx => ∃ (j : Nat) (a : Option Addr) (cap q : Nat) (wh : Bool) (last size : Nat) (out : List Rc) (so : St), i = .int .i64 j ∧ j ≤ N ∧ v = .slice a q cap ∧ u = .bool wh ∧ q ≤ 1048576 * j ∧ last ≤ 999999999999 ∧ Hid (q = out.length ∧ Op2 w Wx S d b s sa all f j a cap ⟨wh, last, size, out, so⟩ k)) (fun i _ _ _ => N - (intOf i).toNat)
   case atStart => exact ⟨0, none, 0, 0, wh0, 0, 0, [], s, rfl, by omega, rfl, rfl, by omega, by omega, HB⟩
   case round =>
    rename World => Wr
    obtain ⟨j, a, cap, q, wh, last, size, out, so, rfl, hj, rfl, rfl, hq, hlast, HW⟩ := hrel
    obtain ⟨Sx, hOW⟩ := HW.out.2.w
    have HQ := Lib.hid HW.out.1
    have H0 := Lib.hid hOW
    have HOK := Lib.hid (And.intro HW.out.2.ok HW.out.2.nm)
    have HEE := Lib.hid HW.out.2.e
    clear hOW HW
    by_cases hlt : j < N
    ·have hlt' : (j : Int) < (N : Int) := by omega
     obtain ⟨n, hx⟩ : ∃ n, all[j]? = some n := ⟨_, List.getElem?_eq_getElem (by rw [← HNN.out]; exact hlt)⟩
     have hnb := HN.out n (List.mem_of_getElem? hx)
     have hrd := H0.out.sg
     obtain ⟨g, off, hs1⟩ := hrd.some_ (by rw [← HNN.out]; omega)
     have z0 : Wr.cell? ⟨g, off + j, none⟩ = some (.int .i64 (n : Int)) := hrd.cell g off none hs1 j _ (by unfold nvs; rw [List.getElem?_map, hx]; rfl)
     have gl : g < Wr.heap.size := by have := World.block_lt_of_cell? _ _ z0; simpa using this
     have HED : Hid (openS s = opE f (opLoop f (n :: all.drop (j + 1)) ⟨wh, last, size, out, so⟩)) := Lib.hid (by rw [HEE.out, drop_get hx])
     have HSA := Lib.hid hs1
     subst hs1
     clear hx hrd HEE
     go_wp2_with fail
     refine (wfile_any n hnb.2 Wr (HX.out.2.2.2.1.step (HX.out.2.2.2.2.trans H0.out.st))).mono ?_
     rintro e w3 ⟨rfl, k3⟩
     have H3 := Lib.hid (H0.out.quiet k3)
     clear k3 z0 H0
     go_wp2_with fail
     refine (dread_any (fileW n) w3 Sx d so H3.out.dk HOK.out.1.b (by rw [fileW_len]; omega)).mono ?_
     rintro e w4 ⟨rfl, k4⟩
     obtain ⟨t, ht⟩ : ∃ t, t = (readS so (fileW n)).1 := ⟨_, rfl⟩
     obtain ⟨te, hte⟩ : ∃ te, te = (readS so (fileW n)).2 := ⟨_, rfl⟩
     have htl : t.length ≤ 8388608 := by rw [ht]; exact readS_len HOK.out.1.b _
     have HT : Hid (textW so n = t) := Lib.hid (by rw [ht]; rfl)
     rw [← ht, ← hte]
     clear ht hte
     have H4 := Lib.hid (H3.out.quiet k4)
     clear k4 H3
     clear gl
     cases wh with
     | false =>
      by_cases hnf : n < f
      ·have hn2 : (n : Int) < (f : Int) := by omega
       have HST : Hid (opStep f n ⟨false, last, size, out, so⟩ = ((removeS so (fileW n)).1, ⟨false, last, size, out, (removeS so (fileW n)).2⟩)) := Lib.hid (by rw [step_gone (.inl hnf)]; simp [hnf])
       have fc := H4.out.wl.cell
       have c1 := fc 1
       have c2 := fc 2
       clear fc
       simp only [wlc, List.getElem?_toArray, List.getElem?_cons_zero, List.getElem?_cons_succ] at c1 c2
       go_wp2_with fail
       refine (wfile_any n hnb.2 w4 (HX.out.2.2.2.1.step (HX.out.2.2.2.2.trans H4.out.st))).mono ?_
       rintro e w5 ⟨rfl, k5⟩
       have H5 := Lib.hid (H4.out.quiet k5)
       clear k5 H4 c1 c2
       go_wp2_with fail
       refine (remove_any (fileW n) w5 Sx d so H5.out.dk HOK.out.1.b (by rw [fileW_len]; omega)).mono ?_
       rintro e w6 ⟨rfl, S6, hd6, k6⟩
       obtain ⟨er, her⟩ : ∃ er, er = (removeS so (fileW n)).1 := ⟨_, rfl⟩
       obtain ⟨s6, hs6⟩ : ∃ s6, s6 = (removeS so (fileW n)).2 := ⟨_, rfl⟩
       have HO6 : Hid (Ok6 s6 k ∧ NmW s6.E) := Lib.hid (by rw [hs6]; exact ⟨ok_remove HOK.out.1 _, nm_remove HOK.out.2 _⟩)
       rw [← her, ← hs6] at HST
       rw [← hs6] at hd6
       rw [← her]
       clear her hs6
       have H6 := Lib.hid (H5.out.turn hd6 k6)
       clear hd6 k6 H5 HOK HT htl
       by_cases h0 : er = 0
       ·have q0 : (er != 0) = false := by simpa using h0
        have HN6 : Hid (openS s = opE f (opLoop f (all.drop (j + 1)) ⟨false, last, size, out, s6⟩)) := Lib.hid (by rw [HED.out, opE_cons, HST.out]; simp only; rw [if_neg (by simpa using h0)])
        clear h0 HED HST
        have fc := H6.out.wl.cell
        have c1 := fc 1
        have c2 := fc 2
        clear fc
        simp only [wlc, List.getElem?_toArray, List.getElem?_cons_zero, List.getElem?_cons_succ] at c1 c2
        go_wp2_with fail
        go_roundw
        case rel => exact ⟨j + 1, a, cap, q, false, last, size, out, s6, by go_num, by omega, rfl, rfl, by omega, hlast, Lib.hid ⟨HQ.out, ⟨S6, H6.out⟩, HO6.out.1, HO6.out.2, HN6.out⟩⟩
        case measure => simp [intOf]; omega
       ·have q0 : (er != 0) = true := by simpa using h0
        have HD : Hid (openS s = (er, ⟨0, 0, 0, false⟩, [], s6)) := Lib.hid (by rw [HED.out, opE_cons, HST.out]; simp only; rw [if_pos h0])
        go_wp2_with fail
        refine bodyPost_ret (results_tmp3 rfl _ _ _) rfl ?_
        rw [HD.out]
        exact ⟨S6, H6.out.dk, H6.out.st, .inr ⟨h0, rfl⟩⟩
      ·have hn2 : ¬ (n : Int) < (f : Int) := by omega
       have HST : Hid (opStep f n ⟨false, last, size, out, so⟩ = ((removeS so (fileW n)).1, ⟨false, last, size, out, (removeS so (fileW n)).2⟩)) := Lib.hid (by rw [step_gone (.inr (.inl rfl))]; simp [hnf])
       have fc := H4.out.wl.cell
       have c1 := fc 1
       have c2 := fc 2
       clear fc
       simp only [wlc, List.getElem?_toArray, List.getElem?_cons_zero, List.getElem?_cons_succ] at c1 c2
       go_wp2_with fail
       refine (wfile_any n hnb.2 w4 (HX.out.2.2.2.1.step (HX.out.2.2.2.2.trans H4.out.st))).mono ?_
       rintro e w5 ⟨rfl, k5⟩
       have H5 := Lib.hid (H4.out.quiet k5)
       clear k5 H4 c1 c2
       go_wp2_with fail
       refine (remove_any (fileW n) w5 Sx d so H5.out.dk HOK.out.1.b (by rw [fileW_len]; omega)).mono ?_
       rintro e w6 ⟨rfl, S6, hd6, k6⟩
       obtain ⟨er, her⟩ : ∃ er, er = (removeS so (fileW n)).1 := ⟨_, rfl⟩
       obtain ⟨s6, hs6⟩ : ∃ s6, s6 = (removeS so (fileW n)).2 := ⟨_, rfl⟩
       have HO6 : Hid (Ok6 s6 k ∧ NmW s6.E) := Lib.hid (by rw [hs6]; exact ⟨ok_remove HOK.out.1 _, nm_remove HOK.out.2 _⟩)
       rw [← her, ← hs6] at HST
       rw [← hs6] at hd6
       rw [← her]
       clear her hs6
       have H6 := Lib.hid (H5.out.turn hd6 k6)
       clear hd6 k6 H5 HOK HT htl
       by_cases h0 : er = 0
       ·have q0 : (er != 0) = false := by simpa using h0
        have HN6 : Hid (openS s = opE f (opLoop f (all.drop (j + 1)) ⟨false, last, size, out, s6⟩)) := Lib.hid (by rw [HED.out, opE_cons, HST.out]; simp only; rw [if_neg (by simpa using h0)])
        clear h0 HED HST
        have fc := H6.out.wl.cell
        have c1 := fc 1
        have c2 := fc 2
        clear fc
        simp only [wlc, List.getElem?_toArray, List.getElem?_cons_zero, List.getElem?_cons_succ] at c1 c2
        go_wp2_with fail
        go_roundw
        case rel => exact ⟨j + 1, a, cap, q, false, last, size, out, s6, by go_num, by omega, rfl, rfl, by omega, hlast, Lib.hid ⟨HQ.out, ⟨S6, H6.out⟩, HO6.out.1, HO6.out.2, HN6.out⟩⟩
        case measure => simp [intOf]; omega
       ·have q0 : (er != 0) = true := by simpa using h0
        have HD : Hid (openS s = (er, ⟨0, 0, 0, false⟩, [], s6)) := Lib.hid (by rw [HED.out, opE_cons, HST.out]; simp only; rw [if_pos h0])
        go_wp2_with fail
        refine bodyPost_ret (results_tmp3 rfl _ _ _) rfl ?_
        rw [HD.out]
        exact ⟨S6, H6.out.dk, H6.out.st, .inr ⟨h0, rfl⟩⟩
     | true =>
      by_cases hnf : n < f
      ·have hn2 : (n : Int) < (f : Int) := by omega
       have HST : Hid (opStep f n ⟨true, last, size, out, so⟩ = ((removeS so (fileW n)).1, ⟨true, last, size, out, (removeS so (fileW n)).2⟩)) := Lib.hid (by rw [step_gone (.inl hnf)]; simp [hnf])
       have fc := H4.out.wl.cell
       have c1 := fc 1
       have c2 := fc 2
       clear fc
       simp only [wlc, List.getElem?_toArray, List.getElem?_cons_zero, List.getElem?_cons_succ] at c1 c2
       go_wp2_with fail
       refine (wfile_any n hnb.2 w4 (HX.out.2.2.2.1.step (HX.out.2.2.2.2.trans H4.out.st))).mono ?_
       rintro e w5 ⟨rfl, k5⟩
       have H5 := Lib.hid (H4.out.quiet k5)
       clear k5 H4 c1 c2
       go_wp2_with fail
       refine (remove_any (fileW n) w5 Sx d so H5.out.dk HOK.out.1.b (by rw [fileW_len]; omega)).mono ?_
       rintro e w6 ⟨rfl, S6, hd6, k6⟩
       obtain ⟨er, her⟩ : ∃ er, er = (removeS so (fileW n)).1 := ⟨_, rfl⟩
       obtain ⟨s6, hs6⟩ : ∃ s6, s6 = (removeS so (fileW n)).2 := ⟨_, rfl⟩
       have HO6 : Hid (Ok6 s6 k ∧ NmW s6.E) := Lib.hid (by rw [hs6]; exact ⟨ok_remove HOK.out.1 _, nm_remove HOK.out.2 _⟩)
       rw [← her, ← hs6] at HST
       rw [← hs6] at hd6
       rw [← her]
       clear her hs6
       have H6 := Lib.hid (H5.out.turn hd6 k6)
       clear hd6 k6 H5 HOK HT htl
       by_cases h0 : er = 0
       ·have q0 : (er != 0) = false := by simpa using h0
        have HN6 : Hid (openS s = opE f (opLoop f (all.drop (j + 1)) ⟨true, last, size, out, s6⟩)) := Lib.hid (by rw [HED.out, opE_cons, HST.out]; simp only; rw [if_neg (by simpa using h0)])
        clear h0 HED HST
        have fc := H6.out.wl.cell
        have c1 := fc 1
        have c2 := fc 2
        clear fc
        simp only [wlc, List.getElem?_toArray, List.getElem?_cons_zero, List.getElem?_cons_succ] at c1 c2
        go_wp2_with fail
        go_roundw
        case rel => exact ⟨j + 1, a, cap, q, true, last, size, out, s6, by go_num, by omega, rfl, rfl, by omega, hlast, Lib.hid ⟨HQ.out, ⟨S6, H6.out⟩, HO6.out.1, HO6.out.2, HN6.out⟩⟩
        case measure => simp [intOf]; omega
       ·have q0 : (er != 0) = true := by simpa using h0
        have HD : Hid (openS s = (er, ⟨0, 0, 0, false⟩, [], s6)) := Lib.hid (by rw [HED.out, opE_cons, HST.out]; simp only; rw [if_pos h0])
        go_wp2_with fail
        refine bodyPost_ret (results_tmp3 rfl _ _ _) rfl ?_
        rw [HD.out]
        exact ⟨S6, H6.out.dk, H6.out.st, .inr ⟨h0, rfl⟩⟩
      have hn2 : ¬ (n : Int) < (f : Int) := by omega
      have HNF := Lib.hid hnf
      by_cases hnl : n = last + 1
      ·have q1 : ((n : Int) != (last : Int) + 1) = false := by simp; omega
       have HNG : Hid (¬ goneW f n ⟨true, last, size, out, so⟩) := Lib.hid (by rintro (h | h | h); exact HNF.out h; cases h; exact h.1 hnl)
       clear hnf hnl
       by_cases hnf : n = f
       ·have q2 : ((n : Int) == (f : Int)) = true := by simp; omega
        have HNE := Lib.hid hnf
        clear hnf
        have fc := H4.out.wl.cell
        have c1 := fc 1
        have c2 := fc 2
        clear fc
        simp only [wlc, List.getElem?_toArray, List.getElem?_cons_zero, List.getElem?_cons_succ] at c1 c2
        go_wp2_with fail
        refine (wbegins_any t htl w4).mono ?_
        rintro e w5 ⟨rfl, k5⟩
        have H5 := Lib.hid (H4.out.quiet k5)
        obtain ⟨p, hp⟩ : ∃ p, p = (begV t).1 := ⟨_, rfl⟩
        have hpl : p ≤ t.length := by rw [hp]; exact begV_le t
        have HFW : Hid (fromW f n t = p) := Lib.hid (by unfold fromW; rw [if_pos HNE.out, hp])
        rw [← hp]
        clear hp k5 H4 c1 c2
        go_wp2_with fail
        refine (wrecords_any t p hpl htl w5).mono ?_
        rintro e w6 ⟨a2, c2, rfl, r2, k6⟩
        obtain ⟨l2, hl2⟩ : ∃ l2, l2 = (recs (t.drop p)).1 := ⟨_, rfl⟩
        obtain ⟨m, hm⟩ : ∃ m, m = l2.length := ⟨_, rfl⟩
        obtain ⟨en, hen⟩ : ∃ en, en = p + (recs (t.drop p)).2 := ⟨_, rfl⟩
        have hml : m ≤ 1048576 := by rw [hm, hl2]; exact recs_few htl p
        have henl : en ≤ t.length := by have := (recs_le (t.drop p)).1; rw [List.length_drop] at this; omega
        have HSTC : Hid (en < t.length → opStep f n ⟨true, last, size, out, so⟩ = ((cutS so (fileW n) (en : Int)).1, ⟨false, n, en, out ++ l2, (cutS so (fileW n) (en : Int)).2⟩)) := Lib.hid (fun hc => by rw [hen, hl2]; exact step_cut (o := ⟨true, last, size, out, so⟩) HNG.out HT.out HFW.out (by rw [← hen]; exact hc))
        have HSTK : Hid (¬ en < t.length → opStep f n ⟨true, last, size, out, so⟩ = (0, ⟨true, n, en, out ++ l2, so⟩)) := Lib.hid (fun hc => by rw [hen, hl2]; exact step_keep (o := ⟨true, last, size, out, so⟩) HNG.out HT.out HFW.out (by rw [← hen]; exact hc))
        rw [← hl2] at r2
        rw [← hl2, ← hen, ← hm]
        rw [← hm] at r2
        have HML := Lib.hid hm
        have k60 : Step [] [] w5 w6 := k6.drop (by simp)
        have H6 := Lib.hid (H5.out.quiet k60)
        have HR0 : Hid (Rd w6 5 a2 m (rcs l2) ∧ ∀ g, g ∈ blks a2 → g ∉ Sx) := Lib.hid ⟨r2.rd, fun g hg hm => by
         rcases k6.fresh g hg with h1 | h1
         ·exact absurd h1 (by simp)
         ·have := H5.out.dk.lt g hm; omega⟩
        clear hl2 hen hm r2 k6 k60 H5 HT HFW HNG
        by_cases hc : en < t.length
        ·have hcd : (en : Int) < (t.length : Int) := by omega
         have HST := Lib.hid (HSTC.out hc)
         clear HSTC HSTK
         go_wp2_with fail
         refine (wfile_any n hnb.2 w6 (HX.out.2.2.2.1.step (HX.out.2.2.2.2.trans H6.out.st))).mono ?_
         rintro e w7 ⟨rfl, k7⟩
         have H7 := Lib.hid (H6.out.quiet k7)
         have HR1 : Hid (Rd w7 5 a2 m (rcs l2)) := Lib.hid (HR0.out.1.step0 k7)
         clear k7 H6
         go_wp2_with fail
         refine (dcut_any (fileW n) (en : Int) w7 Sx d so H7.out.dk HOK.out.1.b (by rw [fileW_len]; omega)).mono ?_
         rintro e w8 ⟨rfl, S8, hd8, k8⟩
         obtain ⟨er, her⟩ : ∃ er, er = (cutS so (fileW n) (en : Int)).1 := ⟨_, rfl⟩
         obtain ⟨s8, hs8⟩ : ∃ s8, s8 = (cutS so (fileW n) (en : Int)).2 := ⟨_, rfl⟩
         have HO8 : Hid (Ok6 s8 k ∧ NmW s8.E) := Lib.hid (by rw [hs8]; exact ⟨ok_cut HOK.out.1 _ _, nm_cut HOK.out.2 _ _⟩)
         rw [← her, ← hs8] at HST
         rw [← hs8] at hd8
         rw [← her]
         clear her hs8
         have H8 := Lib.hid (H7.out.turn hd8 k8)
         have HR2 : Hid (Rd w8 5 a2 m (rcs l2)) := Lib.hid (HR1.out.step k8 (fun g hg => HR0.out.2 g hg))
         clear hd8 k8 H7 HR1 HR0 HOK
         by_cases h0 : er = 0
         ·have q0 : (er != 0) = false := by simpa using h0
          have HN6 : Hid (openS s = opE f (opLoop f (all.drop (j + 1)) ⟨false, n, en, out ++ l2, s8⟩)) := Lib.hid (by rw [HED.out, opE_cons, HST.out]; simp only; rw [if_neg (by simpa using h0)])
          clear h0 HED HST
          have HRQ : Hid (Row w8 5 a q cap (rcs out)) := Lib.hid (by rw [HQ.out]; exact H8.out.row)
          go_upto_region 34 with (at_builtin; refine wpList_append_row rfl (.tmp 145) (.tmp 146) 32 32 rfl 45 i0 _ 5 48 Tryz.underlying32 HI.out.1 HI.out.2.1 HI.out.2.2.1 HI.out.2.2.2 rfl rfl HRQ.out rfl (Src.rd 32 45 Tryz.underlying32 HR2.out (rcs_ones l2)) (by unfold maxLen; omega) (by omega) (by omega) ?_; intro a3 c3 w9 r9 k9; have H9 := Lib.hid (And.intro r9 k9); clear r9 k9)
          have HG : Hid (OpW w w9 S S8 d b ⟨f, last, size, false⟩ s8 (some ⟨g, off, none⟩) all a3 c3 (out ++ l2)) := Lib.hid (H8.out.grow (by
           have h := H9.out.1
           rw [HQ.out, HML.out] at h
           rw [List.length_append]
           rwa [show rcs (out ++ l2) = rcs out ++ rcs l2 by simp [rcs]]) H9.out.2)
          have hbl := HG.out.wl.lt
          have fz2 := HG.out.wl.frozen 2
          have fz3 := HG.out.wl.frozen 3
          have c2 := HG.out.wl.cell 2
          have c3' := HG.out.wl.cell 3
          simp only [wlc, List.getElem?_toArray, List.getElem?_cons_zero, List.getElem?_cons_succ] at c2 c3'
          have HNN2 : Hid (Op2 w ((w9.setCell ⟨b, 2, none⟩ (.int .i64 (n : Int))).setCell ⟨b, 3, none⟩ (.int .i64 (en : Int))) S d b s (some ⟨g, off, none⟩) all f (j + 1) a3 c3 ⟨false, n, en, out ++ l2, s8⟩ k) := Lib.hid ⟨⟨S8, HG.out.set (by simpa using (HG.out.wl.set 2 (.int .i64 (n : Int))).set 3 (.int .i64 (en : Int))) (((Step.refl [b] w9).setCell (p := ⟨b, 2, none⟩) (.inl (by simp)) _).setCell (p := ⟨b, 3, none⟩) (.inl (by simp)) _)⟩, HO8.out.1, HO8.out.2, HN6.out⟩
          have HLL : Hid (q + m = (out ++ l2).length) := Lib.hid (by rw [List.length_append, ← HQ.out, ← HML.out])
          clear HRQ H9 HG H8 HR2
          go_wp2_with fail
          go_roundw
          case rel => exact ⟨j + 1, a3, c3, q + m, false, n, en, out ++ l2, s8, by go_num, by omega, by go_num, rfl, by omega, hnb.2, Lib.hid ⟨HLL.out, HNN2.out⟩⟩
          case measure => simp [intOf]; omega
         ·have q0 : (er != 0) = true := by simpa using h0
          have HD : Hid (openS s = (er, ⟨0, 0, 0, false⟩, [], s8)) := Lib.hid (by rw [HED.out, opE_cons, HST.out]; simp only; rw [if_pos h0])
          go_wp2_with fail
          refine bodyPost_ret (results_tmp3 rfl _ _ _) rfl ?_
          rw [HD.out]
          exact ⟨S8, H8.out.dk, H8.out.st, .inr ⟨h0, rfl⟩⟩
        ·have hcd : ¬ (en : Int) < (t.length : Int) := by omega
         have HST := Lib.hid (HSTK.out hc)
         have HR2 : Hid (Rd w6 5 a2 m (rcs l2)) := Lib.hid HR0.out.1
         have HN6 : Hid (openS s = opE f (opLoop f (all.drop (j + 1)) ⟨true, n, en, out ++ l2, so⟩)) := Lib.hid (by rw [HED.out, opE_cons, HST.out]; simp only; rw [if_neg (by simp)])
         clear HSTC HSTK HR0 HED HST
         have HRQ : Hid (Row w6 5 a q cap (rcs out)) := Lib.hid (by rw [HQ.out]; exact H6.out.row)
         go_upto_region 34 with (at_builtin; refine wpList_append_row rfl (.tmp 145) (.tmp 146) 32 32 rfl 45 i0 _ 5 48 Tryz.underlying32 HI.out.1 HI.out.2.1 HI.out.2.2.1 HI.out.2.2.2 rfl rfl HRQ.out rfl (Src.rd 32 45 Tryz.underlying32 HR2.out (rcs_ones l2)) (by unfold maxLen; omega) (by omega) (by omega) ?_; intro a3 c3 w9 r9 k9; have H9 := Lib.hid (And.intro r9 k9); clear r9 k9)
         have HG : Hid (OpW w w9 S Sx d b ⟨f, last, size, false⟩ so (some ⟨g, off, none⟩) all a3 c3 (out ++ l2)) := Lib.hid (H6.out.grow (by
          have h := H9.out.1
          rw [HQ.out, HML.out] at h
          rw [List.length_append]
          rwa [show rcs (out ++ l2) = rcs out ++ rcs l2 by simp [rcs]]) H9.out.2)
         have hbl := HG.out.wl.lt
         have fz2 := HG.out.wl.frozen 2
         have fz3 := HG.out.wl.frozen 3
         have c2 := HG.out.wl.cell 2
         have c3' := HG.out.wl.cell 3
         simp only [wlc, List.getElem?_toArray, List.getElem?_cons_zero, List.getElem?_cons_succ] at c2 c3'
         have HNN2 : Hid (Op2 w ((w9.setCell ⟨b, 2, none⟩ (.int .i64 (n : Int))).setCell ⟨b, 3, none⟩ (.int .i64 (en : Int))) S d b s (some ⟨g, off, none⟩) all f (j + 1) a3 c3 ⟨true, n, en, out ++ l2, so⟩ k) := Lib.hid ⟨⟨Sx, HG.out.set (by simpa using (HG.out.wl.set 2 (.int .i64 (n : Int))).set 3 (.int .i64 (en : Int))) (((Step.refl [b] w9).setCell (p := ⟨b, 2, none⟩) (.inl (by simp)) _).setCell (p := ⟨b, 3, none⟩) (.inl (by simp)) _)⟩, HOK.out.1, HOK.out.2, HN6.out⟩
         have HLL : Hid (q + m = (out ++ l2).length) := Lib.hid (by rw [List.length_append, ← HQ.out, ← HML.out])
         clear HRQ H9 HG H6 HR2
         go_wp2_with fail
         go_roundw
         case rel => exact ⟨j + 1, a3, c3, q + m, true, n, en, out ++ l2, so, by go_num, by omega, by go_num, rfl, by omega, hnb.2, Lib.hid ⟨HLL.out, HNN2.out⟩⟩
         case measure => simp [intOf]; omega
       ·have q2 : ((n : Int) == (f : Int)) = false := by simp; omega
        have fc := H4.out.wl.cell
        have c1 := fc 1
        have c2 := fc 2
        clear fc
        simp only [wlc, List.getElem?_toArray, List.getElem?_cons_zero, List.getElem?_cons_succ] at c1 c2
        have hpl : 0 ≤ t.length := Nat.zero_le _
        have HFW : Hid (fromW f n t = 0) := Lib.hid (by unfold fromW; rw [if_neg hnf])
        go_wp2_with fail
        obtain ⟨w5, hw5⟩ : ∃ w5, w5 = w4 := ⟨_, rfl⟩
        have H5 : Hid (OpW w w5 S Sx d b ⟨f, last, size, false⟩ so (some ⟨g, off, none⟩) all a cap out) := Lib.hid (by rw [hw5]; exact H4.out)
        rw [← hw5]
        clear hw5 H4 c1 c2
        refine (wrecords_zero t htl w5).mono ?_
        rintro e w6 ⟨a2, c2, rfl, r2, k6⟩
        obtain ⟨l2, hl2⟩ : ∃ l2, l2 = (recs (t.drop 0)).1 := ⟨_, rfl⟩
        obtain ⟨m, hm⟩ : ∃ m, m = l2.length := ⟨_, rfl⟩
        obtain ⟨en, hen⟩ : ∃ en, en = 0 + (recs (t.drop 0)).2 := ⟨_, rfl⟩
        have hml : m ≤ 1048576 := by rw [hm, hl2]; exact recs_few htl 0
        have henl : en ≤ t.length := by have := (recs_le (t.drop 0)).1; rw [List.length_drop] at this; omega
        have HSTC : Hid (en < t.length → opStep f n ⟨true, last, size, out, so⟩ = ((cutS so (fileW n) (en : Int)).1, ⟨false, n, en, out ++ l2, (cutS so (fileW n) (en : Int)).2⟩)) := Lib.hid (fun hc => by rw [hen, hl2]; exact step_cut (o := ⟨true, last, size, out, so⟩) HNG.out HT.out HFW.out (by rw [← hen]; exact hc))
        have HSTK : Hid (¬ en < t.length → opStep f n ⟨true, last, size, out, so⟩ = (0, ⟨true, n, en, out ++ l2, so⟩)) := Lib.hid (fun hc => by rw [hen, hl2]; exact step_keep (o := ⟨true, last, size, out, so⟩) HNG.out HT.out HFW.out (by rw [← hen]; exact hc))
        rw [← hl2] at r2
        rw [← hl2, ← hen, ← hm]
        rw [← hm] at r2
        have HML := Lib.hid hm
        have k60 : Step [] [] w5 w6 := k6.drop (by simp)
        have H6 := Lib.hid (H5.out.quiet k60)
        have HR0 : Hid (Rd w6 5 a2 m (rcs l2) ∧ ∀ g, g ∈ blks a2 → g ∉ Sx) := Lib.hid ⟨r2.rd, fun g hg hm => by
         rcases k6.fresh g hg with h1 | h1
         ·exact absurd h1 (by simp)
         ·have := H5.out.dk.lt g hm; omega⟩
        clear hl2 hen hm r2 k6 k60 H5 HT HFW HNG
        by_cases hc : en < t.length
        ·have hcd : (en : Int) < (t.length : Int) := by omega
         have HST := Lib.hid (HSTC.out hc)
         clear HSTC HSTK
         go_wp2_with fail
         refine (wfile_any n hnb.2 w6 (HX.out.2.2.2.1.step (HX.out.2.2.2.2.trans H6.out.st))).mono ?_
         rintro e w7 ⟨rfl, k7⟩
         have H7 := Lib.hid (H6.out.quiet k7)
         have HR1 : Hid (Rd w7 5 a2 m (rcs l2)) := Lib.hid (HR0.out.1.step0 k7)
         clear k7 H6
         go_wp2_with fail
         refine (dcut_any (fileW n) (en : Int) w7 Sx d so H7.out.dk HOK.out.1.b (by rw [fileW_len]; omega)).mono ?_
         rintro e w8 ⟨rfl, S8, hd8, k8⟩
         obtain ⟨er, her⟩ : ∃ er, er = (cutS so (fileW n) (en : Int)).1 := ⟨_, rfl⟩
         obtain ⟨s8, hs8⟩ : ∃ s8, s8 = (cutS so (fileW n) (en : Int)).2 := ⟨_, rfl⟩
         have HO8 : Hid (Ok6 s8 k ∧ NmW s8.E) := Lib.hid (by rw [hs8]; exact ⟨ok_cut HOK.out.1 _ _, nm_cut HOK.out.2 _ _⟩)
         rw [← her, ← hs8] at HST
         rw [← hs8] at hd8
         rw [← her]
         clear her hs8
         have H8 := Lib.hid (H7.out.turn hd8 k8)
         have HR2 : Hid (Rd w8 5 a2 m (rcs l2)) := Lib.hid (HR1.out.step k8 (fun g hg => HR0.out.2 g hg))
         clear hd8 k8 H7 HR1 HR0 HOK
         by_cases h0 : er = 0
         ·have q0 : (er != 0) = false := by simpa using h0
          have HN6 : Hid (openS s = opE f (opLoop f (all.drop (j + 1)) ⟨false, n, en, out ++ l2, s8⟩)) := Lib.hid (by rw [HED.out, opE_cons, HST.out]; simp only; rw [if_neg (by simpa using h0)])
          clear h0 HED HST
          have HRQ : Hid (Row w8 5 a q cap (rcs out)) := Lib.hid (by rw [HQ.out]; exact H8.out.row)
          go_upto_region 34 with (at_builtin; refine wpList_append_row rfl (.tmp 145) (.tmp 146) 32 32 rfl 45 i0 _ 5 48 Tryz.underlying32 HI.out.1 HI.out.2.1 HI.out.2.2.1 HI.out.2.2.2 rfl rfl HRQ.out rfl (Src.rd 32 45 Tryz.underlying32 HR2.out (rcs_ones l2)) (by unfold maxLen; omega) (by omega) (by omega) ?_; intro a3 c3 w9 r9 k9; have H9 := Lib.hid (And.intro r9 k9); clear r9 k9)
          have HG : Hid (OpW w w9 S S8 d b ⟨f, last, size, false⟩ s8 (some ⟨g, off, none⟩) all a3 c3 (out ++ l2)) := Lib.hid (H8.out.grow (by
           have h := H9.out.1
           rw [HQ.out, HML.out] at h
           rw [List.length_append]
           rwa [show rcs (out ++ l2) = rcs out ++ rcs l2 by simp [rcs]]) H9.out.2)
          have hbl := HG.out.wl.lt
          have fz2 := HG.out.wl.frozen 2
          have fz3 := HG.out.wl.frozen 3
          have c2 := HG.out.wl.cell 2
          have c3' := HG.out.wl.cell 3
          simp only [wlc, List.getElem?_toArray, List.getElem?_cons_zero, List.getElem?_cons_succ] at c2 c3'
          have HNN2 : Hid (Op2 w ((w9.setCell ⟨b, 2, none⟩ (.int .i64 (n : Int))).setCell ⟨b, 3, none⟩ (.int .i64 (en : Int))) S d b s (some ⟨g, off, none⟩) all f (j + 1) a3 c3 ⟨false, n, en, out ++ l2, s8⟩ k) := Lib.hid ⟨⟨S8, HG.out.set (by simpa using (HG.out.wl.set 2 (.int .i64 (n : Int))).set 3 (.int .i64 (en : Int))) (((Step.refl [b] w9).setCell (p := ⟨b, 2, none⟩) (.inl (by simp)) _).setCell (p := ⟨b, 3, none⟩) (.inl (by simp)) _)⟩, HO8.out.1, HO8.out.2, HN6.out⟩
          have HLL : Hid (q + m = (out ++ l2).length) := Lib.hid (by rw [List.length_append, ← HQ.out, ← HML.out])
          clear HRQ H9 HG H8 HR2
          go_wp2_with fail
          go_roundw
          case rel => exact ⟨j + 1, a3, c3, q + m, false, n, en, out ++ l2, s8, by go_num, by omega, by go_num, rfl, by omega, hnb.2, Lib.hid ⟨HLL.out, HNN2.out⟩⟩
          case measure => simp [intOf]; omega
         ·have q0 : (er != 0) = true := by simpa using h0
          have HD : Hid (openS s = (er, ⟨0, 0, 0, false⟩, [], s8)) := Lib.hid (by rw [HED.out, opE_cons, HST.out]; simp only; rw [if_pos h0])
          go_wp2_with fail
          refine bodyPost_ret (results_tmp3 rfl _ _ _) rfl ?_
          rw [HD.out]
          exact ⟨S8, H8.out.dk, H8.out.st, .inr ⟨h0, rfl⟩⟩
        ·have hcd : ¬ (en : Int) < (t.length : Int) := by omega
         have HST := Lib.hid (HSTK.out hc)
         have HR2 : Hid (Rd w6 5 a2 m (rcs l2)) := Lib.hid HR0.out.1
         have HN6 : Hid (openS s = opE f (opLoop f (all.drop (j + 1)) ⟨true, n, en, out ++ l2, so⟩)) := Lib.hid (by rw [HED.out, opE_cons, HST.out]; simp only; rw [if_neg (by simp)])
         clear HSTC HSTK HR0 HED HST
         have HRQ : Hid (Row w6 5 a q cap (rcs out)) := Lib.hid (by rw [HQ.out]; exact H6.out.row)
         go_upto_region 34 with (at_builtin; refine wpList_append_row rfl (.tmp 145) (.tmp 146) 32 32 rfl 45 i0 _ 5 48 Tryz.underlying32 HI.out.1 HI.out.2.1 HI.out.2.2.1 HI.out.2.2.2 rfl rfl HRQ.out rfl (Src.rd 32 45 Tryz.underlying32 HR2.out (rcs_ones l2)) (by unfold maxLen; omega) (by omega) (by omega) ?_; intro a3 c3 w9 r9 k9; have H9 := Lib.hid (And.intro r9 k9); clear r9 k9)
         have HG : Hid (OpW w w9 S Sx d b ⟨f, last, size, false⟩ so (some ⟨g, off, none⟩) all a3 c3 (out ++ l2)) := Lib.hid (H6.out.grow (by
          have h := H9.out.1
          rw [HQ.out, HML.out] at h
          rw [List.length_append]
          rwa [show rcs (out ++ l2) = rcs out ++ rcs l2 by simp [rcs]]) H9.out.2)
         have hbl := HG.out.wl.lt
         have fz2 := HG.out.wl.frozen 2
         have fz3 := HG.out.wl.frozen 3
         have c2 := HG.out.wl.cell 2
         have c3' := HG.out.wl.cell 3
         simp only [wlc, List.getElem?_toArray, List.getElem?_cons_zero, List.getElem?_cons_succ] at c2 c3'
         have HNN2 : Hid (Op2 w ((w9.setCell ⟨b, 2, none⟩ (.int .i64 (n : Int))).setCell ⟨b, 3, none⟩ (.int .i64 (en : Int))) S d b s (some ⟨g, off, none⟩) all f (j + 1) a3 c3 ⟨true, n, en, out ++ l2, so⟩ k) := Lib.hid ⟨⟨Sx, HG.out.set (by simpa using (HG.out.wl.set 2 (.int .i64 (n : Int))).set 3 (.int .i64 (en : Int))) (((Step.refl [b] w9).setCell (p := ⟨b, 2, none⟩) (.inl (by simp)) _).setCell (p := ⟨b, 3, none⟩) (.inl (by simp)) _)⟩, HOK.out.1, HOK.out.2, HN6.out⟩
         have HLL : Hid (q + m = (out ++ l2).length) := Lib.hid (by rw [List.length_append, ← HQ.out, ← HML.out])
         clear HRQ H9 HG H6 HR2
         go_wp2_with fail
         go_roundw
         case rel => exact ⟨j + 1, a3, c3, q + m, true, n, en, out ++ l2, so, by go_num, by omega, by go_num, rfl, by omega, hnb.2, Lib.hid ⟨HLL.out, HNN2.out⟩⟩
         case measure => simp [intOf]; omega
      ·have q1 : ((n : Int) != (last : Int) + 1) = true := by simp; omega
       clear hnf
       by_cases hnf : n = f
       ·have q2 : ((n : Int) != (f : Int)) = false := by simp; omega
        have q3 : ((n : Int) == (f : Int)) = true := by simp; omega
        have HNG : Hid (¬ goneW f n ⟨true, last, size, out, so⟩) := Lib.hid (by rintro (h | h | h); exact HNF.out h; cases h; exact h.2 hnf)
        have HNE := Lib.hid hnf
        clear hnf hnl
        have fc := H4.out.wl.cell
        have c1 := fc 1
        have c2 := fc 2
        clear fc
        simp only [wlc, List.getElem?_toArray, List.getElem?_cons_zero, List.getElem?_cons_succ] at c1 c2
        go_wp2_with fail
        refine (wbegins_any t htl w4).mono ?_
        rintro e w5 ⟨rfl, k5⟩
        have H5 := Lib.hid (H4.out.quiet k5)
        obtain ⟨p, hp⟩ : ∃ p, p = (begV t).1 := ⟨_, rfl⟩
        have hpl : p ≤ t.length := by rw [hp]; exact begV_le t
        have HFW : Hid (fromW f n t = p) := Lib.hid (by unfold fromW; rw [if_pos HNE.out, hp])
        rw [← hp]
        clear hp k5 H4 c1 c2
        go_wp2_with fail
        refine (wrecords_any t p hpl htl w5).mono ?_
        rintro e w6 ⟨a2, c2, rfl, r2, k6⟩
        obtain ⟨l2, hl2⟩ : ∃ l2, l2 = (recs (t.drop p)).1 := ⟨_, rfl⟩
        obtain ⟨m, hm⟩ : ∃ m, m = l2.length := ⟨_, rfl⟩
        obtain ⟨en, hen⟩ : ∃ en, en = p + (recs (t.drop p)).2 := ⟨_, rfl⟩
        have hml : m ≤ 1048576 := by rw [hm, hl2]; exact recs_few htl p
        have henl : en ≤ t.length := by have := (recs_le (t.drop p)).1; rw [List.length_drop] at this; omega
        have HSTC : Hid (en < t.length → opStep f n ⟨true, last, size, out, so⟩ = ((cutS so (fileW n) (en : Int)).1, ⟨false, n, en, out ++ l2, (cutS so (fileW n) (en : Int)).2⟩)) := Lib.hid (fun hc => by rw [hen, hl2]; exact step_cut (o := ⟨true, last, size, out, so⟩) HNG.out HT.out HFW.out (by rw [← hen]; exact hc))
        have HSTK : Hid (¬ en < t.length → opStep f n ⟨true, last, size, out, so⟩ = (0, ⟨true, n, en, out ++ l2, so⟩)) := Lib.hid (fun hc => by rw [hen, hl2]; exact step_keep (o := ⟨true, last, size, out, so⟩) HNG.out HT.out HFW.out (by rw [← hen]; exact hc))
        rw [← hl2] at r2
        rw [← hl2, ← hen, ← hm]
        rw [← hm] at r2
        have HML := Lib.hid hm
        have k60 : Step [] [] w5 w6 := k6.drop (by simp)
        have H6 := Lib.hid (H5.out.quiet k60)
        have HR0 : Hid (Rd w6 5 a2 m (rcs l2) ∧ ∀ g, g ∈ blks a2 → g ∉ Sx) := Lib.hid ⟨r2.rd, fun g hg hm => by
         rcases k6.fresh g hg with h1 | h1
         ·exact absurd h1 (by simp)
         ·have := H5.out.dk.lt g hm; omega⟩
        clear hl2 hen hm r2 k6 k60 H5 HT HFW HNG
        by_cases hc : en < t.length
        ·have hcd : (en : Int) < (t.length : Int) := by omega
         have HST := Lib.hid (HSTC.out hc)
         clear HSTC HSTK
         go_wp2_with fail
         refine (wfile_any n hnb.2 w6 (HX.out.2.2.2.1.step (HX.out.2.2.2.2.trans H6.out.st))).mono ?_
         rintro e w7 ⟨rfl, k7⟩
         have H7 := Lib.hid (H6.out.quiet k7)
         have HR1 : Hid (Rd w7 5 a2 m (rcs l2)) := Lib.hid (HR0.out.1.step0 k7)
         clear k7 H6
         go_wp2_with fail
         refine (dcut_any (fileW n) (en : Int) w7 Sx d so H7.out.dk HOK.out.1.b (by rw [fileW_len]; omega)).mono ?_
         rintro e w8 ⟨rfl, S8, hd8, k8⟩
         obtain ⟨er, her⟩ : ∃ er, er = (cutS so (fileW n) (en : Int)).1 := ⟨_, rfl⟩
         obtain ⟨s8, hs8⟩ : ∃ s8, s8 = (cutS so (fileW n) (en : Int)).2 := ⟨_, rfl⟩
         have HO8 : Hid (Ok6 s8 k ∧ NmW s8.E) := Lib.hid (by rw [hs8]; exact ⟨ok_cut HOK.out.1 _ _, nm_cut HOK.out.2 _ _⟩)
         rw [← her, ← hs8] at HST
         rw [← hs8] at hd8
         rw [← her]
         clear her hs8
         have H8 := Lib.hid (H7.out.turn hd8 k8)
         have HR2 : Hid (Rd w8 5 a2 m (rcs l2)) := Lib.hid (HR1.out.step k8 (fun g hg => HR0.out.2 g hg))
         clear hd8 k8 H7 HR1 HR0 HOK
         by_cases h0 : er = 0
         ·have q0 : (er != 0) = false := by simpa using h0
          have HN6 : Hid (openS s = opE f (opLoop f (all.drop (j + 1)) ⟨false, n, en, out ++ l2, s8⟩)) := Lib.hid (by rw [HED.out, opE_cons, HST.out]; simp only; rw [if_neg (by simpa using h0)])
          clear h0 HED HST
          have HRQ : Hid (Row w8 5 a q cap (rcs out)) := Lib.hid (by rw [HQ.out]; exact H8.out.row)
          go_upto_region 34 with (at_builtin; refine wpList_append_row rfl (.tmp 145) (.tmp 146) 32 32 rfl 45 i0 _ 5 48 Tryz.underlying32 HI.out.1 HI.out.2.1 HI.out.2.2.1 HI.out.2.2.2 rfl rfl HRQ.out rfl (Src.rd 32 45 Tryz.underlying32 HR2.out (rcs_ones l2)) (by unfold maxLen; omega) (by omega) (by omega) ?_; intro a3 c3 w9 r9 k9; have H9 := Lib.hid (And.intro r9 k9); clear r9 k9)
          have HG : Hid (OpW w w9 S S8 d b ⟨f, last, size, false⟩ s8 (some ⟨g, off, none⟩) all a3 c3 (out ++ l2)) := Lib.hid (H8.out.grow (by
           have h := H9.out.1
           rw [HQ.out, HML.out] at h
           rw [List.length_append]
           rwa [show rcs (out ++ l2) = rcs out ++ rcs l2 by simp [rcs]]) H9.out.2)
          have hbl := HG.out.wl.lt
          have fz2 := HG.out.wl.frozen 2
          have fz3 := HG.out.wl.frozen 3
          have c2 := HG.out.wl.cell 2
          have c3' := HG.out.wl.cell 3
          simp only [wlc, List.getElem?_toArray, List.getElem?_cons_zero, List.getElem?_cons_succ] at c2 c3'
          have HNN2 : Hid (Op2 w ((w9.setCell ⟨b, 2, none⟩ (.int .i64 (n : Int))).setCell ⟨b, 3, none⟩ (.int .i64 (en : Int))) S d b s (some ⟨g, off, none⟩) all f (j + 1) a3 c3 ⟨false, n, en, out ++ l2, s8⟩ k) := Lib.hid ⟨⟨S8, HG.out.set (by simpa using (HG.out.wl.set 2 (.int .i64 (n : Int))).set 3 (.int .i64 (en : Int))) (((Step.refl [b] w9).setCell (p := ⟨b, 2, none⟩) (.inl (by simp)) _).setCell (p := ⟨b, 3, none⟩) (.inl (by simp)) _)⟩, HO8.out.1, HO8.out.2, HN6.out⟩
          have HLL : Hid (q + m = (out ++ l2).length) := Lib.hid (by rw [List.length_append, ← HQ.out, ← HML.out])
          clear HRQ H9 HG H8 HR2
          go_wp2_with fail
          go_roundw
          case rel => exact ⟨j + 1, a3, c3, q + m, false, n, en, out ++ l2, s8, by go_num, by omega, by go_num, rfl, by omega, hnb.2, Lib.hid ⟨HLL.out, HNN2.out⟩⟩
          case measure => simp [intOf]; omega
         ·have q0 : (er != 0) = true := by simpa using h0
          have HD : Hid (openS s = (er, ⟨0, 0, 0, false⟩, [], s8)) := Lib.hid (by rw [HED.out, opE_cons, HST.out]; simp only; rw [if_pos h0])
          go_wp2_with fail
          refine bodyPost_ret (results_tmp3 rfl _ _ _) rfl ?_
          rw [HD.out]
          exact ⟨S8, H8.out.dk, H8.out.st, .inr ⟨h0, rfl⟩⟩
        ·have hcd : ¬ (en : Int) < (t.length : Int) := by omega
         have HST := Lib.hid (HSTK.out hc)
         have HR2 : Hid (Rd w6 5 a2 m (rcs l2)) := Lib.hid HR0.out.1
         have HN6 : Hid (openS s = opE f (opLoop f (all.drop (j + 1)) ⟨true, n, en, out ++ l2, so⟩)) := Lib.hid (by rw [HED.out, opE_cons, HST.out]; simp only; rw [if_neg (by simp)])
         clear HSTC HSTK HR0 HED HST
         have HRQ : Hid (Row w6 5 a q cap (rcs out)) := Lib.hid (by rw [HQ.out]; exact H6.out.row)
         go_upto_region 34 with (at_builtin; refine wpList_append_row rfl (.tmp 145) (.tmp 146) 32 32 rfl 45 i0 _ 5 48 Tryz.underlying32 HI.out.1 HI.out.2.1 HI.out.2.2.1 HI.out.2.2.2 rfl rfl HRQ.out rfl (Src.rd 32 45 Tryz.underlying32 HR2.out (rcs_ones l2)) (by unfold maxLen; omega) (by omega) (by omega) ?_; intro a3 c3 w9 r9 k9; have H9 := Lib.hid (And.intro r9 k9); clear r9 k9)
         have HG : Hid (OpW w w9 S Sx d b ⟨f, last, size, false⟩ so (some ⟨g, off, none⟩) all a3 c3 (out ++ l2)) := Lib.hid (H6.out.grow (by
          have h := H9.out.1
          rw [HQ.out, HML.out] at h
          rw [List.length_append]
          rwa [show rcs (out ++ l2) = rcs out ++ rcs l2 by simp [rcs]]) H9.out.2)
         have hbl := HG.out.wl.lt
         have fz2 := HG.out.wl.frozen 2
         have fz3 := HG.out.wl.frozen 3
         have c2 := HG.out.wl.cell 2
         have c3' := HG.out.wl.cell 3
         simp only [wlc, List.getElem?_toArray, List.getElem?_cons_zero, List.getElem?_cons_succ] at c2 c3'
         have HNN2 : Hid (Op2 w ((w9.setCell ⟨b, 2, none⟩ (.int .i64 (n : Int))).setCell ⟨b, 3, none⟩ (.int .i64 (en : Int))) S d b s (some ⟨g, off, none⟩) all f (j + 1) a3 c3 ⟨true, n, en, out ++ l2, so⟩ k) := Lib.hid ⟨⟨Sx, HG.out.set (by simpa using (HG.out.wl.set 2 (.int .i64 (n : Int))).set 3 (.int .i64 (en : Int))) (((Step.refl [b] w9).setCell (p := ⟨b, 2, none⟩) (.inl (by simp)) _).setCell (p := ⟨b, 3, none⟩) (.inl (by simp)) _)⟩, HOK.out.1, HOK.out.2, HN6.out⟩
         have HLL : Hid (q + m = (out ++ l2).length) := Lib.hid (by rw [List.length_append, ← HQ.out, ← HML.out])
         clear HRQ H9 HG H6 HR2
         go_wp2_with fail
         go_roundw
         case rel => exact ⟨j + 1, a3, c3, q + m, true, n, en, out ++ l2, so, by go_num, by omega, by go_num, rfl, by omega, hnb.2, Lib.hid ⟨HLL.out, HNN2.out⟩⟩
         case measure => simp [intOf]; omega
       ·have q2 : ((n : Int) != (f : Int)) = true := by simp; omega
        have HNM := Lib.hid hnf
        have hnf := HNF.out
        have HST : Hid (opStep f n ⟨true, last, size, out, so⟩ = ((removeS so (fileW n)).1, ⟨false, last, size, out, (removeS so (fileW n)).2⟩)) := Lib.hid (by rw [step_gone (.inr (.inr ⟨hnl, HNM.out⟩))]; simp [hnf])
        have fc := H4.out.wl.cell
        have c1 := fc 1
        have c2 := fc 2
        clear fc
        simp only [wlc, List.getElem?_toArray, List.getElem?_cons_zero, List.getElem?_cons_succ] at c1 c2
        go_wp2_with fail
        refine (wfile_any n hnb.2 w4 (HX.out.2.2.2.1.step (HX.out.2.2.2.2.trans H4.out.st))).mono ?_
        rintro e w5 ⟨rfl, k5⟩
        have H5 := Lib.hid (H4.out.quiet k5)
        clear k5 H4 c1 c2
        go_wp2_with fail
        refine (remove_any (fileW n) w5 Sx d so H5.out.dk HOK.out.1.b (by rw [fileW_len]; omega)).mono ?_
        rintro e w6 ⟨rfl, S6, hd6, k6⟩
        obtain ⟨er, her⟩ : ∃ er, er = (removeS so (fileW n)).1 := ⟨_, rfl⟩
        obtain ⟨s6, hs6⟩ : ∃ s6, s6 = (removeS so (fileW n)).2 := ⟨_, rfl⟩
        have HO6 : Hid (Ok6 s6 k ∧ NmW s6.E) := Lib.hid (by rw [hs6]; exact ⟨ok_remove HOK.out.1 _, nm_remove HOK.out.2 _⟩)
        rw [← her, ← hs6] at HST
        rw [← hs6] at hd6
        rw [← her]
        clear her hs6
        have H6 := Lib.hid (H5.out.turn hd6 k6)
        clear hd6 k6 H5 HOK HT htl
        by_cases h0 : er = 0
        ·have q0 : (er != 0) = false := by simpa using h0
         have HN6 : Hid (openS s = opE f (opLoop f (all.drop (j + 1)) ⟨false, last, size, out, s6⟩)) := Lib.hid (by rw [HED.out, opE_cons, HST.out]; simp only; rw [if_neg (by simpa using h0)])
         clear h0 HED HST
         have fc := H6.out.wl.cell
         have c1 := fc 1
         have c2 := fc 2
         clear fc
         simp only [wlc, List.getElem?_toArray, List.getElem?_cons_zero, List.getElem?_cons_succ] at c1 c2
         go_wp2_with fail
         go_roundw
         case rel => exact ⟨j + 1, a, cap, q, false, last, size, out, s6, by go_num, by omega, rfl, rfl, by omega, hlast, Lib.hid ⟨HQ.out, ⟨S6, H6.out⟩, HO6.out.1, HO6.out.2, HN6.out⟩⟩
         case measure => simp [intOf]; omega
        ·have q0 : (er != 0) = true := by simpa using h0
         have HD : Hid (openS s = (er, ⟨0, 0, 0, false⟩, [], s6)) := Lib.hid (by rw [HED.out, opE_cons, HST.out]; simp only; rw [if_pos h0])
         go_wp2_with fail
         refine bodyPost_ret (results_tmp3 rfl _ _ _) rfl ?_
         rw [HD.out]
         exact ⟨S6, H6.out.dk, H6.out.st, .inr ⟨h0, rfl⟩⟩
    ·obtain rfl : j = N := by omega
     have hlt2 : ¬ (j : Int) < (j : Int) := by omega
     have HD : Hid (openS s = (0, ⟨f, last, size, false⟩, out, so)) := Lib.hid (by rw [HEE.out, List.drop_of_length_le (by rw [← HNN.out]; exact Nat.le_refl _), opE_nil])
     go_wp2_with fail
     refine bodyPost_ret (results_tmp3 rfl _ _ _) rfl ?_
     rw [HD.out]
     exact ⟨Sx, H0.out.dk, H0.out.st, .inl ⟨rfl, b, a, cap, by rw [← HQ.out]; rfl, H0.out.wl, H0.out.row, H0.out.nb, fun g hg => ⟨(H0.out.na g hg).1, (H0.out.na g hg).2.1⟩, H0.out.lb, H0.out.la⟩⟩

end Go.Proofs.YtnkbphecabnnaaaGreatDoor
