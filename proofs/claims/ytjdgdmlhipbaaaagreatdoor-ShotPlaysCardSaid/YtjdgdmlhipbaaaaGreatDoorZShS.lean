/-
 shot.Save.
-/
import Derived.Test.YtjdgdmlhipbaaaaGreatDoorZShR
import Derived.Test.YtjdgdmlhipbaaaaGreatDoorZGO
import Derived.Test.YtjdgdmlhipbaaaaGreatDoorZGI
import Derived.Deep.DeepCutAuto
import Derived.Deep.CutBlock
namespace Go.Proofs.YtjdgdmlhipbaaaaGreatDoor
open Go.RowKit
set_option linter.unusedSimpArgs false
set_option linter.unusedVariables false
set_option maxRecDepth 100000

def saveT (s : St) (f t : List UInt8) : Int × St :=
 if (removeS s f).1 ≠ 0 ∧ (removeS s f).1 ≠ 8 then removeS s f
 else if (appendS (removeS s f).2 f t).1 ≠ 0 then appendS (removeS s f).2 f t
 else syncS (appendS (removeS s f).2 f t).2 f
def saveS (s : St) (x : Sn) : Int × St := if rightSn x = false then (1, s) else if rdS s (fileB x.i.toNat) = (x, true) then (0, s) else saveT s (fileB x.i.toNat) (textB x)
set_option maxHeartbeats 4000000 in
theorem save_any (x : Sn) (w : World) (S : List Nat) (d : Nat) (s : St) (h : Dk w S d s) (k : Nat) (hO : Ok6 s k) (hk : k < 1099511627776) (w0 : World) (hT : PTab w0) (hU : Tabs w0) (hs : Step [] S w0 w) (hx : x.dt.length ≤ 140737488351232) :
  Calls Tryz.prog 8 #[.pointer (some ⟨d, 0, none⟩), snV x] w (DkP (saveS s x) S d w) := by
 have HX := Lib.hid (And.intro h (And.intro hO.b (And.intro (hT.step hs) (hU.step hs))))
 have HK := Lib.hid (And.intro hO (And.intro hT (And.intro hU hs)))
 have HKL := Lib.hid hk
 clear h hO hT hU hs hk
 go_enter Tryz.func8, Tryz.ntmps8
 go_upto_region 1 with fail
 change Code.wp _ _ _ _ (w.alloc (.cells (snc x).toArray 33))
 obtain ⟨b, hb⟩ : ∃ b, b = w.heap.size := ⟨_, rfl⟩
 obtain ⟨V, hV⟩ : ∃ V, V = (w.alloc (.cells (snc x).toArray 33)) := ⟨_, rfl⟩
 have H0 : Hid (Blk V b 33 (snc x).toArray ∧ Dk V S d s ∧ Step [] [] w V ∧ PTab V ∧ Tabs V ∧ b ∉ S) := by
  subst hV hb
  have k : Step [] [] w (w.alloc (.cells (snc x).toArray 33)) := (Step.refl [] w).alloc _
  exact ⟨Blk.new w _ _, HX.out.1.keep k, k, HX.out.2.2.1.step k, HX.out.2.2.2.step k, fun hm => by have := HX.out.1.lt _ hm; omega⟩
 have HBN := Lib.hid H0.out.2.2.2.2.2
 rw [← hV, ← hb]
 clear hV hb
 have fc := H0.out.1.cell
 have f0 := fc 0
 have f1 := fc 1
 have f2 := fc 2
 clear fc
 simp only [snc, List.getElem?_toArray, List.getElem?_cons_zero, List.getElem?_cons_succ] at f0 f1 f2
 go_wp2_with fail
 refine (sright_any x V hx).mono ?_
 rintro e w1 ⟨rfl, k1⟩
 have H1 : Hid (Blk w1 b 33 (snc x).toArray ∧ Dk w1 S d s ∧ Step [] [] w w1 ∧ PTab w1 ∧ Tabs w1) := Lib.hid ⟨H0.out.1.step k1 (by simp), H0.out.2.1.keep k1, H0.out.2.2.1.trans k1, H0.out.2.2.2.1.step k1, H0.out.2.2.2.2.1.step k1⟩
 clear H0 k1 f0 f1 f2
 by_cases hr : rightSn x = true
 ·have HR := Lib.hid (And.intro hr (rightSn_iff.1 hr))
  rw [hr]
  clear hr
  have fc := H1.out.1.cell
  have f0 := fc 0
  have f1 := fc 1
  have f2 := fc 2
  clear fc
  simp only [snc, List.getElem?_toArray, List.getElem?_cons_zero, List.getElem?_cons_succ] at f0 f1 f2
  go_wp2_with fail
  refine (sfile_any x.i HR.out.2.i.1 HR.out.2.i.2 w1 H1.out.2.2.2.1).mono ?_
  rintro e w2 ⟨rfl, k1⟩
  have H2 : Hid (Blk w2 b 33 (snc x).toArray ∧ Dk w2 S d s ∧ Step [] [] w w2 ∧ PTab w2 ∧ Tabs w2) := Lib.hid ⟨H1.out.1.step k1 (by simp), H1.out.2.1.keep k1, H1.out.2.2.1.trans k1, H1.out.2.2.2.1.step k1, H1.out.2.2.2.2.step k1⟩
  clear H1 k1 f0 f1 f2
  obtain ⟨f, hf⟩ : ∃ f, f = fileB x.i.toNat := ⟨_, rfl⟩
  have hfl : f.length ≤ 14 := by rw [hf, fileB_len]; omega
  rw [← hf]
  have HF := Lib.hid hf
  clear hf
  go_wp2_with fail
  refine (sread_any f w2 S d s H2.out.2.1 HX.out.2.1 (by omega) H2.out.2.2.2.1).mono ?_
  rintro e w3 ⟨rfl, k1⟩
  have H3 : Hid (Blk w3 b 33 (snc x).toArray ∧ Dk w3 S d s ∧ Step [] [] w w3 ∧ PTab w3 ∧ Tabs w3) := Lib.hid ⟨H2.out.1.step k1 (by simp), H2.out.2.1.keep k1, H2.out.2.2.1.trans k1, H2.out.2.2.2.1.step k1, H2.out.2.2.2.2.step k1⟩
  clear H2 k1
  obtain ⟨y, hy⟩ : ∃ y, y = (rdS s f).1 := ⟨_, rfl⟩
  obtain ⟨ok, hok⟩ : ∃ ok, ok = (rdS s f).2 := ⟨_, rfl⟩
  rw [← hy, ← hok]
  have HY := Lib.hid (And.intro hy hok)
  clear hy hok
  go_upto_region 5 with fail
  obtain ⟨yb, hyb⟩ : ∃ yb, yb = w3.heap.size := ⟨_, rfl⟩
  obtain ⟨V, hV⟩ : ∃ V, V = w3.alloc (.cells (snc y).toArray 33) := ⟨_, rfl⟩
  have H4 : Hid (Blk V b 33 (snc x).toArray ∧ Dk V S d s ∧ Step [] [] w V ∧ PTab V ∧ Tabs V ∧ Blk V yb 33 (snc y).toArray) := by
   subst hV hyb
   have k1 : Step [] [] w3 (w3.alloc (.cells (snc y).toArray 33)) := (Step.refl [] w3).alloc _
   exact ⟨H3.out.1.step k1 (by simp), H3.out.2.1.keep k1, H3.out.2.2.1.trans k1, H3.out.2.2.2.1.step k1, H3.out.2.2.2.2.step k1, Blk.new w3 _ _⟩
  change Code.wp _ _ _ _ (w3.alloc (.cells (snc y).toArray 33))
  rw [← hV, ← hyb]
  clear hV hyb H3
  have fc := H4.out.1.cell
  have f0 := fc 0
  have f1 := fc 1
  have f2 := fc 2
  clear fc
  have fc := H4.out.2.2.2.2.2.cell
  have g0 := fc 0
  have g1 := fc 1
  have g2 := fc 2
  clear fc
  simp only [snc, List.getElem?_toArray, List.getElem?_cons_zero, List.getElem?_cons_succ] at f0 f1 f2 g0 g1 g2
  obtain ⟨q, hq⟩ : ∃ q : Bool, q = (ok && decide (y = x)) := ⟨_, rfl⟩
  have HQ := Lib.hid hq
  clear hq
  go_cut [27] (fun c wx => Hid (c = .bool q ∧ wx = V))
  case first =>
   cases ok with
   | false =>
    have HZ : Hid (q = false) := Lib.hid (by rw [HQ.out]; rfl)
    go_wp2_with fail
    go_meet
    exact ⟨by rw [HZ.out], rfl⟩
   | true =>
    by_cases h1 : y.i = x.i
    ·have e1 : (y.i == x.i) = true := by simpa using h1
     by_cases h2 : y.t = x.t
     ·have e2 : (y.t == x.t) = true := by simpa using h2
      by_cases h3 : y.dt = x.dt
      ·have e3 : (y.dt == x.dt) = true := by simpa using h3
       have HZ : Hid (q = true) := Lib.hid (by
        rw [HQ.out, decide_eq_true (show y = x by cases y; cases x; simp at h1 h2 h3; simp [h1, h2, h3])]
        rfl)
       clear h1 h2 h3
       go_wp2_with fail
       go_meet
       exact ⟨by rw [HZ.out], rfl⟩
      ·have e3 : (y.dt == x.dt) = false := by simpa using h3
       have HZ : Hid (q = false) := Lib.hid (by rw [HQ.out, decide_eq_false (fun e => h3 (by rw [e]))]; rfl)
       clear h1 h2 h3
       go_wp2_with fail
       go_meet
       exact ⟨by rw [HZ.out], rfl⟩
     ·have e2 : (y.t == x.t) = false := by simpa using h2
      have HZ : Hid (q = false) := Lib.hid (by rw [HQ.out, decide_eq_false (fun e => h2 (by rw [e]))]; rfl)
      clear h1 h2
      go_wp2_with fail
      go_meet
      exact ⟨by rw [HZ.out], rfl⟩
    ·have e1 : (y.i == x.i) = false := by simpa using h1
     have HZ : Hid (q = false) := Lib.hid (by rw [HQ.out, decide_eq_false (fun e => h1 (by rw [e]))]; rfl)
     clear h1
     go_wp2_with fail
     go_meet
     exact ⟨by rw [HZ.out], rfl⟩
  case rest =>
   rename World => W0
   obtain ⟨rfl, rfl⟩ := hcut.out
   clear f0 f1 f2 g0 g1 g2
   cases q with
   | true =>
    have hq := HQ.out.symm
    rw [Bool.and_eq_true, decide_eq_true_eq] at hq
    have HN : Hid (saveS s x = (0, s)) := Lib.hid (by
     rw [saveS, if_neg (by rw [HR.out.1]; simp), ← HF.out, if_pos (Prod.ext (by rw [← HY.out.1]; exact hq.2) (by rw [← HY.out.2]; exact hq.1))])
    clear hq
    go_wp2_with fail
    exact bodyPost_ret (results_tmp rfl _ _ _) rfl ⟨by rw [HN.out]; rfl, S, by rw [HN.out]; exact H4.out.2.1, H4.out.2.2.1.keep _⟩
   | false =>
    have HN : Hid (saveS s x = saveT s f (textB x)) := Lib.hid (by
     rw [saveS, if_neg (by rw [HR.out.1]; simp), ← HF.out, if_neg (fun e => by
      have h1 := congrArg Prod.fst e
      have h2 := congrArg Prod.snd e
      have h3 := HQ.out
      rw [HY.out.1, HY.out.2, h1, h2] at h3
      simp at h3)])
    go_wp2_with fail
    refine (remove_any f W0 S d s H4.out.2.1 HX.out.2.1 (by omega)).mono ?_
    rintro e w5 ⟨rfl, S5, hD5, k5⟩
    have H5 : Hid (Blk w5 b 33 (snc x).toArray ∧ Dk w5 S5 d (removeS s f).2 ∧ Step S S5 w w5 ∧ Step [] S5 w0 w5 ∧ b ∉ S5) :=
     Lib.hid ⟨H4.out.1.step k5 HBN.out, hD5, (H4.out.2.2.1.keep S).trans k5, (HK.out.2.2.2.trans (H4.out.2.2.1.keep S)).trans k5, k5.notin H4.out.1.lt HBN.out⟩
    have HO1 := Lib.hid (ok_remove HK.out.1 f)
    clear hD5 k5 H4
    obtain ⟨c1, hc1⟩ : ∃ c1, c1 = (removeS s f).1 := ⟨_, rfl⟩
    obtain ⟨s1, hs1⟩ : ∃ s1, s1 = (removeS s f).2 := ⟨_, rfl⟩
    have HS1 : Hid (removeS s f = (c1, s1)) := Lib.hid (by rw [hc1, hs1])
    rw [← hs1] at H5 HO1
    rw [← hc1]
    clear hc1 hs1
    by_cases z1 : c1 ≠ 0 ∧ c1 ≠ 8
    ·have e1 : (c1 != 0) = true := by simpa using z1.1
     have e2 : (c1 != 8) = true := by simpa using z1.2
     have e1' : (c1 == 0) = false := by simpa using z1.1
     have e2' : (c1 == 8) = false := by simpa using z1.2
     have HN2 : Hid (saveS s x = (c1, s1)) := Lib.hid (by rw [HN.out, saveT, HS1.out, if_pos z1])
     clear z1
     go_wp2_with fail
     exact bodyPost_ret (results_tmp rfl _ _ _) rfl ⟨by rw [HN2.out]; rfl, S5, by rw [HN2.out]; exact H5.out.2.1, H5.out.2.2.1⟩
    ·have HC1 := Lib.hid z1
     go_upto_region 8 with fail
     go_cut [36] (fun c wx => Hid (c = .bool false ∧ wx = w5))
     case first =>
      by_cases z0 : c1 = 0
      ·have e1' : (c1 == 0) = true := by simpa using z0
       have e1 : (c1 != 0) = false := by simpa using z0
       clear z0 z1
       go_wp2_with fail
       go_meet
       exact ⟨rfl, rfl⟩
      ·have z8 : c1 = 8 := Decidable.byContradiction fun e => z1 ⟨z0, e⟩
       have e1' : (c1 == 0) = false := by simpa using z0
       have e1 : (c1 != 0) = true := by simpa using z0
       have e2' : (c1 == 8) = true := by simpa using z8
       have e2 : (c1 != 8) = false := by simpa using z8
       clear z0 z8 z1
       go_wp2_with fail
       go_meet
       exact ⟨rfl, rfl⟩
     case rest =>
      rename World => W6
      obtain ⟨rfl, rfl⟩ := hcut.out
      clear z1
      have fc := H5.out.1.cell
      have f0 := fc 0
      have f1 := fc 1
      have f2 := fc 2
      clear fc
      simp only [snc, List.getElem?_toArray, List.getElem?_cons_zero, List.getElem?_cons_succ] at f0 f1 f2
      go_wp2_with fail
      refine (stext_any x HR.out.2 W6).mono ?_
      rintro e w7 ⟨rfl, k7⟩
      have H7 : Hid (Dk w7 S5 d s1 ∧ Step S S5 w w7 ∧ Step [] S5 w0 w7) := Lib.hid ⟨H5.out.2.1.keep k7, H5.out.2.2.1.trans (k7.keep _), H5.out.2.2.2.1.trans (k7.keep _)⟩
      have htl := (text_len HR.out.2).1
      clear k7 H5 f0 f1 f2
      obtain ⟨t, ht⟩ : ∃ t, t = textB x := ⟨_, rfl⟩
      rw [← ht] at HN htl
      rw [← ht]
      clear ht
      go_wp2_with fail
      refine (append_any f t w7 S5 d s1 H7.out.1 HO1.out.b (HK.out.2.2.1.step H7.out.2.2) ⟨by omega, by omega⟩).mono ?_
      rintro e w8 ⟨rfl, S8, hD8, k8⟩
      have H8 : Hid (Dk w8 S8 d (appendS s1 f t).2 ∧ Step S S8 w w8 ∧ Step [] S8 w0 w8) := Lib.hid ⟨hD8, H7.out.2.1.trans k8, H7.out.2.2.trans k8⟩
      have HO2 := Lib.hid (ok_append HO1.out H7.out.1.ris f t (by omega) HKL.out)
      clear hD8 k8 H7
      obtain ⟨c2, hc2⟩ : ∃ c2, c2 = (appendS s1 f t).1 := ⟨_, rfl⟩
      obtain ⟨s2, hs2⟩ : ∃ s2, s2 = (appendS s1 f t).2 := ⟨_, rfl⟩
      have HS2 : Hid (appendS s1 f t = (c2, s2)) := Lib.hid (by rw [hc2, hs2])
      rw [← hs2] at H8 HO2
      rw [← hc2]
      clear hc2 hs2
      by_cases y2 : c2 = 0
      ·have e2 : (c2 != 0) = false := by simpa using y2
       have e2' : (c2 == 0) = true := by simpa using y2
       have HN2 : Hid (saveS s x = syncS s2 f) := Lib.hid (by rw [HN.out, saveT, HS1.out, if_neg HC1.out]; simp only; rw [HS2.out, if_neg (by simpa using y2)])
       clear y2
       go_wp2_with fail
       refine (sync_any f w8 S8 d s2 H8.out.1 HO2.out.b (by omega)).mono ?_
       rintro e w9 ⟨rfl, S9, hD9, k9⟩
       have H9 : Hid (Dk w9 S9 d (syncS s2 f).2 ∧ Step S S9 w w9) := Lib.hid ⟨hD9, H8.out.2.1.trans k9⟩
       clear hD9 k9 H8
       go_wp2_with fail
       exact bodyPost_ret (results_tmp rfl _ _ _) rfl ⟨by rw [HN2.out]; rfl, S9, by rw [HN2.out]; exact H9.out.1, H9.out.2⟩
      ·have e2 : (c2 != 0) = true := by simpa using y2
       have e2' : (c2 == 0) = false := by simpa using y2
       have HN2 : Hid (saveS s x = (c2, s2)) := Lib.hid (by rw [HN.out, saveT, HS1.out, if_neg HC1.out]; simp only; rw [HS2.out, if_pos (by simpa using y2)])
       clear y2
       go_wp2_with fail
       exact bodyPost_ret (results_tmp rfl _ _ _) rfl ⟨by rw [HN2.out]; rfl, S8, by rw [HN2.out]; exact H8.out.1, H8.out.2.1⟩
 ·have HR := Lib.hid (show rightSn x = false by simpa using hr)
  rw [show rightSn x = false by simpa using hr]
  clear hr
  go_wp2_with fail
  exact bodyPost_ret (results_tmp rfl _ _ _) rfl ⟨by rw [saveS, if_pos HR.out]; rfl, S, by rw [saveS, if_pos HR.out]; exact H1.out.2.1, H1.out.2.2.1.keep _⟩
end Go.Proofs.YtjdgdmlhipbaaaaGreatDoor
