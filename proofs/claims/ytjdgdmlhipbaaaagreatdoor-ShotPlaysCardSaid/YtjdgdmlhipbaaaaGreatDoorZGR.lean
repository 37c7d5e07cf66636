/-
 exchequerref08.Save, over the reference's disk. Conditions: as Ok6 says; a rising list of files.
-/
import Derived.Test.YtjdgdmlhipbaaaaGreatDoorZShL
import Derived.Test.YtjdgdmlhipbaaaaGreatDoorZShC
import Derived.Test.YtjdgdmlhipbaaaaGreatDoorZGE
import Derived.Test.YtjdgdmlhipbaaaaGreatDoorZGQ
namespace Go.Proofs.YtjdgdmlhipbaaaaGreatDoor
open Go.RowKit Go.Maps
set_option linter.unusedSimpArgs false
set_option linter.unusedVariables false
set_option maxRecDepth 100000

theorem eget_en_none (L : List Fil) (n : List UInt8) : eget (L.map Fil.en) n = none ↔ ∀ g ∈ L, g.n ≠ n := by
 unfold eget
 rw [List.find?_eq_none]
 constructor
 ·intro h g hg e
  have := h g.en (List.mem_map.2 ⟨g, hg, rfl⟩)
  simp [Fil.en, e] at this
 ·intro h y hy
  obtain ⟨g, hg, rfl⟩ := List.mem_map.1 hy
  simp [Fil.en, h g hg]
theorem ris_eins {x : En} {E : List En} (h : ERis E) (hg : eget E x.n = none) : ERis (eins x E) := by
 obtain ⟨L, hL⟩ : ∃ L : List Fil, L.map Fil.en = E := ⟨E.map fun e => ⟨e.n, 0, e.d, e.l⟩, by rw [List.map_map]; exact (List.map_congr_left fun e _ => rfl).trans (List.map_id _)⟩
 rw [← hL] at h hg ⊢
 have e : eins x (L.map Fil.en) = (fins ⟨x.n, 0, x.d, x.l⟩ L).map Fil.en := (fins_en ⟨x.n, 0, x.d, x.l⟩ L).symm
 rw [e]
 refine ris_en.2 (fins_ris (ris_en.1 h) fun g hgm => ?_)
 intro hn
 rw [eget_en_none] at hg
 exact hg g hgm hn
theorem ris_add {E : List En} (h : ERis E) (n b : List UInt8) : ERis (addE E n b) := by
 unfold addE
 cases hg : eget E n with
 | some f => exact ris_emod h n _ fun _ => rfl
 | none => exact ris_eins h hg
theorem ris_append {s : St} (h : ERis s.E) (n b : List UInt8) : ERis (appendS s n b).2.E := by
 unfold appendS
 split
 ·exact h
 ·split
  ·exact h
  ·split
   ·exact h
   ·split
    ·exact h
    ·exact ris_add h n b
theorem save_off {s : St} {x : Sn} (hr : rightSn x = true) (ho : s.off = true) : saveS s x = (7, s) := by
 unfold saveS
 rw [if_neg (by rw [hr]; simp), if_neg (by
  have : (readS s (fileB x.i.toNat)).2 = 7 := by unfold readS; rw [ho]; rfl
  rw [rdS_no (.inl (by rw [this]; decide))]
  simp)]
 have h1 : removeS s (fileB x.i.toNat) = (7, s) := by unfold removeS onFile; rw [ho]; rfl
 unfold saveT
 rw [h1, if_pos (by simp)]
theorem saveT_from {s s1 : St} {f t : List UInt8} {c : Int} (h : removeS s f = (c, s1)) (hc : c = 0 ∨ c = 8) : saveT s f t = if (appendS s1 f t).1 ≠ 0 then appendS s1 f t else syncS (appendS s1 f t).2 f := by
 unfold saveT
 rw [h]
 simp only
 rw [if_neg (by rintro ⟨h1, h2⟩; rcases hc with h3 | h3; exact h1 h3; exact h2 h3)]
theorem read_code {s : St} (ho : s.off = false) (f : List UInt8) : ((readS s f).2 = 0 ∧ eget s.E f ≠ none) ∨ ((readS s f).2 = 8 ∧ removeS s f = (8, s)) := by
 unfold readS removeS onFile
 rw [ho]
 simp only [Bool.false_eq_true, if_false]
 cases eget s.E f with
 | none => exact .inr ⟨rfl, rfl⟩
 | some y => exact .inl ⟨rfl, by simp⟩
theorem remove_code {s : St} (ho : s.off = false) {f : List UInt8} (hg : eget s.E f ≠ none) : (removeS s f).1 = 0 ∨ (removeS s f).1 = 7 := by
 unfold removeS onFile
 rw [ho]
 simp only [Bool.false_eq_true, if_false]
 cases h : eget s.E f with
 | none => exact absurd h hg
 | some y => simp only; split; exact .inr rfl; exact .inl rfl
theorem rdS_whole {s : St} {f t : List UInt8} (h : readS s f = (t, 0)) : rdS s f = wholeV f t := by
 unfold wholeV
 cases hw : wholeB f t with
 | none => exact rdS_no (.inr (by rw [h]; exact hw))
 | some x => exact rdS_yes (by rw [h]) (by rw [h]; exact hw)
structure SvH (w W : World) (S0 S : List Nat) (d b : Nat) (s : St) (x : Sn) : Prop where
 rf : Rf W S d s
 st : Step S0 S w W
 pb : Blk W b 33 (snc x).toArray
 nb : b ∉ S
section
variable {w W W1 : World} {S0 S S' T : List Nat} {d b : Nat} {s s' : St} {x : Sn}
theorem SvH.turn (h : SvH w W S0 S d b s x) (hD : Rf W1 S' d s') (k : Step S S' W W1) : SvH w W1 S0 S' d b s' x :=
 ⟨hD, h.st.trans k, h.pb.step k h.nb, k.notin h.pb.lt h.nb⟩
theorem SvH.quiet (h : SvH w W S0 S d b s x) (k : Step [] T W W1) : SvH w W1 S0 S d b s x :=
 ⟨h.rf.keep k, h.st.trans ((k.drop (S'' := []) (by simp)).keep _), h.pb.step k (by simp), h.nb⟩
theorem SvH.fin (h : SvH w W S0 S d b s x) {c : Int} {r : Int × St} (hr : r = (c, s)) : RfP r S0 d w (.returned (.int .i64 c)) W := by
 rw [hr]; exact ⟨rfl, S, h.rf, h.st⟩
theorem SvH.offc (h : SvH w W S0 S d b s x) : W.cell? ⟨d, 3, none⟩ = some (.bool s.off) ∧ d < W.heap.size := by
 obtain ⟨a, cap, h1⟩ := h.rf
 have c3 := h1.blk.cell 3
 simp only [List.getElem?_toArray, List.getElem?_cons_zero, List.getElem?_cons_succ] at c3
 exact ⟨c3, h1.blk.lt⟩
end
set_option maxHeartbeats 4000000 in
theorem rsave_any (x : Sn) (w : World) (S : List Nat) (d : Nat) (s : St) (h : Rf w S d s) (k : Nat) (hO : Ok6 s k) (hk : k < 1099511627776) (hr : ERis s.E) (hx : x.dt.length ≤ 140737488351232) : Calls Tryz.prog 9 #[.pointer (some ⟨d, 0, none⟩), snV x] w (RfP (saveS s x) S d w) := by
 have HOK := Lib.hid hO
 have HRI := Lib.hid hr
 go_enter Tryz.func9, Tryz.ntmps9
 go_upto_region 1 with fail
 obtain ⟨b, hb⟩ : ∃ b, b = w.heap.size := ⟨_, rfl⟩
 obtain ⟨V, hV⟩ : ∃ V, V = w.alloc (.cells (snc x).toArray 33) := ⟨_, rfl⟩
 have H0 : Hid (SvH w V S S d b s x) := by
  subst hV hb
  exact ⟨h.keep ((Step.refl [] w).alloc _), (Step.refl S w).alloc _, Blk.new w _ _, fun hm => by have := h.lt _ hm; omega⟩
 change Code.wp _ _ _ _ (w.alloc (.cells (snc x).toArray 33))
 rw [← hV]
 try rw [← hb]
 clear hV hb h hO hr
 have cc := H0.out.pb.cell
 have f0 := cc 0
 have f1 := cc 1
 have f2 := cc 2
 clear cc
 simp only [snc, List.getElem?_toArray, List.getElem?_cons_zero, List.getElem?_cons_succ] at f0 f1 f2
 go_wp2_with fail
 refine (ref08Right_any x V hx).mono ?_
 rintro e w1 ⟨rfl, k9⟩
 have H1 := Lib.hid (H0.out.quiet k9)
 clear k9 H0 f0 f1 f2
 by_cases hrx : rightSn x = true
 case neg =>
  have hr' : rightSn x = false := by simpa using hrx
  have HS : Hid (saveS s x = (1, s)) := Lib.hid (by unfold saveS; rw [if_pos hr'])
  rw [hr']
  clear hr' hrx
  go_wp2_with fail
  refine bodyPost_ret (results_tmp rfl _ _ _) rfl ?_
  exact H1.out.fin HS.out
 have HX : Hid (RSn x) := Lib.hid (rightSn_iff.1 hrx)
 have HRX := Lib.hid hrx
 rw [hrx]
 clear hrx
 obtain ⟨c3, dl⟩ := H1.out.offc
 cases ho : s.off with
 | true =>
  rw [ho] at c3
  have HS : Hid (saveS s x = (7, s)) := Lib.hid (save_off HRX.out ho)
  clear ho
  go_wp2_with fail
  refine bodyPost_ret (results_tmp rfl _ _ _) rfl ?_
  exact H1.out.fin HS.out
 | false =>
  rw [ho] at c3
  have HF := Lib.hid ho
  obtain ⟨n, hn⟩ : ∃ n : Nat, x.i = n := ⟨x.i.toNat, by have := HX.out.i; omega⟩
  have hn2 : n ≤ 1099511627776 := by have := HX.out.i; omega
  have cc := H1.out.pb.cell
  have f0 := cc 0
  have f1 := cc 1
  have f2 := cc 2
  clear cc
  simp only [snc, List.getElem?_toArray, List.getElem?_cons_zero, List.getElem?_cons_succ] at f0 f1 f2
  rw [hn] at f0
  clear ho
  go_wp2_with fail
  refine (rfile_any n hn2 w1).mono ?_
  rintro e w2 ⟨rfl, k9⟩
  have H2 := Lib.hid (H1.out.quiet k9)
  clear k9 H1 f0 f1 f2 c3 dl
  obtain ⟨f, hf⟩ : ∃ f, f = fileB n := ⟨_, rfl⟩
  have HFI : Hid (f = fileB x.i.toNat) := Lib.hid (by rw [hf, hn]; rfl)
  have hfl : f.length ≤ 1099511627776 := by rw [hf, fileB_len]; omega
  rw [← hf]
  clear hf hn hn2
  have HSA : Hid (saveS s x = if rdS s f = (x, true) then (0, s) else saveT s f (textB x)) := Lib.hid (by unfold saveS; rw [if_neg (by rw [HRX.out]; simp), ← HFI.out])
  go_wp2_with fail
  refine (rread_any f w2 _ d s H2.out.rf HOK.out.b).mono ?_
  rintro e w3 ⟨rfl, nn, hw3⟩
  have H3 : Hid (SvH w w3 S S d b s x) := by subst hw3; exact H2.out.quiet ((Step.refl [] w2).drewN nn)
  clear hw3 H2
  obtain ⟨t, ht⟩ : ∃ t, t = (readS s f).1 := ⟨_, rfl⟩
  obtain ⟨c, hc⟩ : ∃ c, c = (readS s f).2 := ⟨_, rfl⟩
  have hts : t.length ≤ 8388608 := by rw [ht]; exact readS_len HOK.out.b f
  have HT : Hid (readS s f = (t, c)) := Lib.hid (by rw [ht, hc])
  rw [← ht, ← hc]
  clear ht hc
  by_cases hc0 : c = 0
  ·have HG : Hid (eget s.E f ≠ none) := Lib.hid (by
    rcases read_code HF.out f with h1 | h1
    ·exact h1.2
    ·rw [HT.out] at h1; have := h1.1; simp at this; omega)
   have HW : Hid (rdS s f = wholeV f t) := Lib.hid (rdS_whole (by rw [HT.out, hc0]))
   rw [hc0]
   have hcd : ((0 : Int) == 0) = true := rfl
   clear hc0 hcd
   go_wp2_with fail
   refine (whole8_any f t hts w3).mono ?_
   rintro e w4 ⟨rfl, k9⟩
   have H4 := Lib.hid (H3.out.quiet k9)
   clear k9 H3
   obtain ⟨y, hy⟩ : ∃ y, y = (wholeV f t).1 := ⟨_, rfl⟩
   obtain ⟨ok, hok⟩ : ∃ ok, ok = (wholeV f t).2 := ⟨_, rfl⟩
   have HY : Hid (rdS s f = (y, ok)) := Lib.hid (by rw [HW.out, hy, hok])
   rw [← hy, ← hok]
   clear hy hok
   go_upto_region 9 with fail
   obtain ⟨yb, hyb⟩ : ∃ yb, yb = w4.heap.size := ⟨_, rfl⟩
   obtain ⟨V5, hV5⟩ : ∃ V5, V5 = w4.alloc (.cells (snc y).toArray 33) := ⟨_, rfl⟩
   have H5 : Hid (SvH w V5 S S d b s x ∧ Blk V5 yb 33 (snc y).toArray) := by
    subst hV5 hyb
    exact ⟨H4.out.quiet ((Step.refl [] w4).alloc _), Blk.new w4 _ _⟩
   change Code.wp _ _ _ _ (w4.alloc (.cells (snc y).toArray 33))
   rw [← hV5]
   try rw [← hyb]
   clear hV5 hyb H4

   have cc := H5.out.1.pb.cell
   have f0 := cc 0
   have f1 := cc 1
   have f2 := cc 2
   clear cc
   have cc := H5.out.2.cell
   have g0 := cc 0
   have g1 := cc 1
   have g2 := cc 2
   clear cc
   simp only [snc, List.getElem?_toArray, List.getElem?_cons_zero, List.getElem?_cons_succ] at f0 f1 f2 g0 g1 g2
   obtain ⟨q, hq⟩ : ∃ q : Bool, q = (ok && decide (y = x)) := ⟨_, rfl⟩
   have HQ := Lib.hid hq
   clear hq
   go_cut [41] (fun c wx => Hid (c = .bool q ∧ wx = V5))
   case first =>
    cases ok with
    | false =>
     have HZ : Hid (q = false) := Lib.hid (by rw [HQ.out]; rfl)
     go_wp2_with fail
     go_meet
     exact ⟨by rw [HZ.out], rfl⟩
    | true =>
     by_cases h1 : y.i = x.i
     ·have e1 : (y.i == x.i) = true := by simpa using h1
      by_cases h2 : y.t = x.t
      ·have e2 : (y.t == x.t) = true := by simpa using h2
       by_cases h3 : y.dt = x.dt
       ·have e3 : (y.dt == x.dt) = true := by simpa using h3
        have HZ : Hid (q = true) := Lib.hid (by
         rw [HQ.out, decide_eq_true (show y = x by cases y; cases x; simp at h1 h2 h3; simp [h1, h2, h3])]
         rfl)
        clear h1 h2 h3
        go_wp2_with fail
        go_meet
        exact ⟨by rw [HZ.out], rfl⟩
       ·have e3 : (y.dt == x.dt) = false := by simpa using h3
        have HZ : Hid (q = false) := Lib.hid (by rw [HQ.out, decide_eq_false (fun e => h3 (by rw [e]))]; rfl)
        clear h1 h2 h3
        go_wp2_with fail
        go_meet
        exact ⟨by rw [HZ.out], rfl⟩
      ·have e2 : (y.t == x.t) = false := by simpa using h2
       have HZ : Hid (q = false) := Lib.hid (by rw [HQ.out, decide_eq_false (fun e => h2 (by rw [e]))]; rfl)
       clear h1 h2
       go_wp2_with fail
       go_meet
       exact ⟨by rw [HZ.out], rfl⟩
     ·have e1 : (y.i == x.i) = false := by simpa using h1
      have HZ : Hid (q = false) := Lib.hid (by rw [HQ.out, decide_eq_false (fun e => h1 (by rw [e]))]; rfl)
      clear h1
      go_wp2_with fail
      go_meet
      exact ⟨by rw [HZ.out], rfl⟩
   case rest =>
    rename World => W0
    obtain ⟨rfl, rfl⟩ := hcut.out
    clear f0 f1 f2 g0 g1 g2
    cases q with
    | true =>
     have hq := HQ.out.symm
     rw [Bool.and_eq_true, decide_eq_true_eq] at hq
     have HN : Hid (saveS s x = (0, s)) := Lib.hid (by rw [HSA.out, if_pos (by rw [HY.out, hq.1, hq.2])])
     clear hq
     go_wp2_with fail
     refine bodyPost_ret (results_tmp rfl _ _ _) rfl ?_
     exact H5.out.1.fin HN.out
    | false =>
     have HN : Hid (saveS s x = saveT s f (textB x)) := Lib.hid (by
      rw [HSA.out, if_neg (fun e => by
       rw [HY.out] at e
       have h1 := congrArg Prod.fst e
       have h2 := congrArg Prod.snd e
       have h3 := HQ.out
       simp only at h1 h2
       rw [h1, h2] at h3
       simp at h3)])
     go_wp2_with fail
     refine (rremove_any f W0 _ d s H5.out.1.rf HOK.out.b HRI.out).mono ?_
     rintro e w6 ⟨rfl, S6, hD, k9⟩
     have H6 := Lib.hid (H5.out.1.turn hD k9)
     have HO6 := Lib.hid (ok_remove HOK.out f)
     have HR6 := Lib.hid (ris_remove HRI.out f)
     clear hD k9 H5
     have hcode := remove_code HF.out HG.out
     obtain ⟨c1, hc1⟩ : ∃ z, z = (removeS s f).1 := ⟨_, rfl⟩
     obtain ⟨s1, hs1⟩ : ∃ z, z = (removeS s f).2 := ⟨_, rfl⟩
     have HRM : Hid (removeS s f = (c1, s1)) := Lib.hid (by rw [hc1, hs1])
     rw [← hc1] at hcode
     rw [← hs1] at H6 HO6 HR6
     rw [← hc1]
     clear hc1 hs1
     rcases hcode with hz | hz
     ·have HS : Hid (saveS s x = if (appendS s1 f (textB x)).1 ≠ 0 then appendS s1 f (textB x) else syncS (appendS s1 f (textB x)).2 f) := Lib.hid (by rw [HN.out]; exact saveT_from HRM.out (.inl hz))
      rw [hz]
      clear hz
      have cc := H6.out.pb.cell
      have f0 := cc 0
      have f1 := cc 1
      have f2 := cc 2
      clear cc
      simp only [snc, List.getElem?_toArray, List.getElem?_cons_zero, List.getElem?_cons_succ] at f0 f1 f2
      go_wp2_with fail
      refine (rtext8_any x HX.out w6).mono ?_
      rintro e w7 ⟨rfl, k9⟩
      have H7 := Lib.hid (H6.out.quiet k9)
      clear k9 H6 f0 f1 f2
      obtain ⟨tt, htt⟩ : ∃ tt, tt = textB x := ⟨_, rfl⟩
      have htl : tt.length ≤ 1048607 := by rw [htt]; exact (text_len HX.out).1
      rw [← htt] at HS
      rw [← htt]
      clear htt
      go_wp2_with fail
      refine (rappend_any f tt w7 _ d s1 H7.out.rf HO6.out.b HR6.out ⟨hfl, by omega⟩).mono ?_
      rintro e w8 ⟨rfl, S8, hD, k9⟩
      have H8 := Lib.hid (H7.out.turn hD k9)
      clear hD k9 H7
      have HO8 := Lib.hid (ok_append HO6.out HR6.out f tt hfl (by omega))
      have HR8 := Lib.hid (ris_append HR6.out f tt)
      obtain ⟨a1, ha1⟩ : ∃ z, z = (appendS s1 f tt).1 := ⟨_, rfl⟩
      obtain ⟨a2, ha2⟩ : ∃ z, z = (appendS s1 f tt).2 := ⟨_, rfl⟩
      have HA : Hid (appendS s1 f tt = (a1, a2)) := Lib.hid (by rw [ha1, ha2])
      rw [← ha1]
      rw [← ha2] at H8 HO8 HR8
      clear ha1 ha2
      by_cases hz : a1 = 0
      ·have hzd : (a1 != 0) = false := by simpa using hz
       have HZ := Lib.hid hz
       clear hz
       go_wp2_with fail
       refine (rsync_any f w8 _ d a2 H8.out.rf HO8.out.b HR8.out).mono ?_
       rintro e w9 ⟨rfl, S9, hD, k9⟩
       have H9 := Lib.hid (H8.out.turn hD k9)
       clear hD k9 H8
       go_wp2_with fail
       refine bodyPost_ret (results_tmp rfl _ _ _) rfl ?_
       exact H9.out.fin (by rw [HS.out, HA.out, if_neg (by simpa using HZ.out)])
      ·have hzd : (a1 != 0) = true := by simpa using hz
       have HZ := Lib.hid hz
       clear hz
       go_wp2_with fail
       refine bodyPost_ret (results_tmp rfl _ _ _) rfl ?_
       exact H8.out.fin (by rw [HS.out, HA.out, if_pos (by simpa using HZ.out)])
     ·have HS : Hid (saveS s x = (7, s1)) := Lib.hid (by
       rw [HN.out]
       unfold saveT
       rw [HRM.out, hz, if_pos (by simp)])
      rw [hz]
      clear hz
      go_wp2_with fail
      refine bodyPost_ret (results_tmp rfl _ _ _) rfl ?_
      exact H6.out.fin HS.out
  ·have HRM : Hid (c = 8 ∧ removeS s f = (8, s)) := Lib.hid (by
    rcases read_code HF.out f with h1 | h1
    ·rw [HT.out] at h1; exact absurd h1.1 hc0
    ·exact ⟨by have := h1.1; rw [HT.out] at this; exact this, h1.2⟩)
   have HS : Hid (saveS s x = if (appendS s f (textB x)).1 ≠ 0 then appendS s f (textB x) else syncS (appendS s f (textB x)).2 f) := Lib.hid (by
    rw [HSA.out, if_neg (by rw [rdS_no (.inl (by rw [HT.out]; exact hc0))]; simp)]
    exact saveT_from HRM.out.2 (.inr rfl))
   have hc8 := HRM.out.1
   rw [hc8]
   clear hc0 hc8
   have HO3 := HOK
   have HR3 := HRI
   have cc := H3.out.pb.cell
   have f0 := cc 0
   have f1 := cc 1
   have f2 := cc 2
   clear cc
   simp only [snc, List.getElem?_toArray, List.getElem?_cons_zero, List.getElem?_cons_succ] at f0 f1 f2
   go_wp2_with fail
   refine (rtext8_any x HX.out w3).mono ?_
   rintro e w4 ⟨rfl, k9⟩
   have H4 := Lib.hid (H3.out.quiet k9)
   clear k9 H3 f0 f1 f2
   obtain ⟨tt, htt⟩ : ∃ tt, tt = textB x := ⟨_, rfl⟩
   have htl : tt.length ≤ 1048607 := by rw [htt]; exact (text_len HX.out).1
   rw [← htt] at HS
   rw [← htt]
   clear htt
   go_wp2_with fail
   refine (rappend_any f tt w4 _ d s H4.out.rf HO3.out.b HR3.out ⟨hfl, by omega⟩).mono ?_
   rintro e w5 ⟨rfl, S5, hD, k9⟩
   have H5 := Lib.hid (H4.out.turn hD k9)
   clear hD k9 H4
   have HO5 := Lib.hid (ok_append HO3.out HR3.out f tt hfl (by omega))
   have HR5 := Lib.hid (ris_append HR3.out f tt)
   obtain ⟨a1, ha1⟩ : ∃ z, z = (appendS s f tt).1 := ⟨_, rfl⟩
   obtain ⟨a2, ha2⟩ : ∃ z, z = (appendS s f tt).2 := ⟨_, rfl⟩
   have HA : Hid (appendS s f tt = (a1, a2)) := Lib.hid (by rw [ha1, ha2])
   rw [← ha1]
   rw [← ha2] at H5 HO5 HR5
   clear ha1 ha2
   by_cases hz : a1 = 0
   ·have hzd : (a1 != 0) = false := by simpa using hz
    have HZ := Lib.hid hz
    clear hz
    go_wp2_with fail
    refine (rsync_any f w5 _ d a2 H5.out.rf HO5.out.b HR5.out).mono ?_
    rintro e w6 ⟨rfl, S6, hD, k9⟩
    have H6 := Lib.hid (H5.out.turn hD k9)
    clear hD k9 H5
    go_wp2_with fail
    refine bodyPost_ret (results_tmp rfl _ _ _) rfl ?_
    exact H6.out.fin (by rw [HS.out, HA.out, if_neg (by simpa using HZ.out)])
   ·have hzd : (a1 != 0) = true := by simpa using hz
    have HZ := Lib.hid hz
    clear hz
    go_wp2_with fail
    refine bodyPost_ret (results_tmp rfl _ _ _) rfl ?_
    exact H5.out.fin (by rw [HS.out, HA.out, if_pos (by simpa using HZ.out)])

end Go.Proofs.YtjdgdmlhipbaaaaGreatDoor
namespace Go.Proofs.YtjdgdmlhipbaaaaGreatDoor
open Go.RowKit Go.Maps
set_option linter.unusedSimpArgs false
set_option linter.unusedVariables false
set_option maxRecDepth 100000

def rstepE (b : Sn) (e : En) : Sn := if (wholeV e.n (e.d ++ e.l)).2 = true ∧ b.i < (wholeV e.n (e.d ++ e.l)).1.i then (wholeV e.n (e.d ++ e.l)).1 else b
def rfirst : Sn := ⟨-1, 0, []⟩
theorem eget_at8 {E : List En} (hr : ERis E) {e : En} (h : e ∈ E) : eget E e.n = some e := by
 obtain ⟨A, B, rfl⟩ := List.append_of_mem h
 unfold eget
 refine List.find?_eq_some_iff_append.2 ⟨by simp, _, _, rfl, fun g hg => ?_⟩
 obtain ⟨_, _, h3⟩ := List.pairwise_append.1 hr
 have := bb_ne (h3 g hg e (by simp))
 simpa using this
theorem rdS_en {s : St} (ho : s.off = false) (hr : ERis s.E) {e : En} (h : e ∈ s.E) : rdS s e.n = wholeV e.n (e.d ++ e.l) := by
 refine rdS_whole ?_
 unfold readS
 rw [ho, eget_at8 hr h]
 rfl
theorem wholeV_right {f t : List UInt8} (h : (wholeV f t).2 = true) : RSn (wholeV f t).1 ∧ f = fileB (wholeV f t).1.i.toNat := by
 unfold wholeV at h ⊢
 cases hw : wholeB f t with
 | none => rw [hw] at h; cases h
 | some x => have := whole_some hw; exact ⟨this.1, this.2.1⟩
theorem rfold (s : St) (ho : s.off = false) (hr : ERis s.E) : ∀ (l : List En) (a : Sn × Bool) (b : Sn), (∀ e ∈ l, e ∈ s.E) → ((a = (sn0, false) ∧ b = rfirst) ∨ (a = (b, true) ∧ 0 ≤ b.i)) →
  (((l.map En.n).foldl (loadStep s) a = (sn0, false) ∧ l.foldl rstepE b = rfirst) ∨ ((l.map En.n).foldl (loadStep s) a = (l.foldl rstepE b, true) ∧ 0 ≤ (l.foldl rstepE b).i)) := by
 intro l
 induction l with
 | nil => intro a b _ h; exact h
 | cons e r ih =>
  intro a b hm h
  rw [List.map_cons, List.foldl_cons, List.foldl_cons]
  refine ih _ _ (fun x hx => hm x (by simp [hx])) ?_
  have hrd := rdS_en ho hr (hm e (by simp))
  unfold loadStep rstepE
  rw [hrd]
  by_cases hw : (wholeV e.n (e.d ++ e.l)).2 = true
  ·obtain ⟨h1, h2⟩ := wholeV_right hw
   have hn : namedB e.n = true := by rw [h2]; exact fileB_named _
   have hi := h1.i.1
   rcases h with ⟨ha, hb⟩ | ⟨ha, hb⟩
   ·rw [ha, hb, if_pos ⟨hn, hw, .inl rfl⟩, if_pos ⟨hw, by show (-1 : Int) < _; omega⟩]
    exact .inr ⟨rfl, hi⟩
   ·by_cases hlt : b.i < (wholeV e.n (e.d ++ e.l)).1.i
    ·rw [ha, if_pos ⟨hn, hw, .inr hlt⟩, if_pos ⟨hw, hlt⟩]
     exact .inr ⟨rfl, hi⟩
    ·rw [ha, if_neg (by rintro ⟨_, _, h | h⟩; cases h; exact hlt h), if_neg (fun h => hlt h.2)]
     exact .inr ⟨rfl, hb⟩
  ·rw [if_neg (fun h => hw h.2.1), if_neg (fun h => hw h.1)]
   exact h
theorem rload_is {s : St} (ho : s.off = false) (hr : ERis s.E) : loadS s = if (s.E.foldl rstepE rfirst).i < 0 then (sn0, false) else (s.E.foldl rstepE rfirst, true) := by
 have h := rfold s ho hr s.E (sn0, false) rfirst (fun _ h => h) (.inl ⟨rfl, rfl⟩)
 have hn : namesS s = s.E.map En.n := by unfold namesS; rw [ho]; rfl
 unfold loadS
 rw [hn]
 rcases h with ⟨h1, h2⟩ | ⟨h1, h2⟩
 ·rw [h1, h2]; rfl
 ·rw [h1, if_neg (by omega)]
structure LdH (w W : World) (S : List Nat) (d rb ob : Nat) (a : Option Addr) (cap : Nat) (s : St) (y : Sn) : Prop where
 rf : Rfm W S d a cap s
 pr : Blk W rb 33 (snc sn0).toArray
 po : Blk W ob 33 (snc y).toArray
 ne : rb ≠ ob
 no : ob ∉ S
 st : Step [] [ob, rb] w W
section
variable {w W W1 : World} {S T : List Nat} {d rb ob cap : Nat} {a : Option Addr} {s : St} {x y : Sn}
theorem LdH.quiet (h : LdH w W S d rb ob a cap s y) (k : Step [] T W W1) : LdH w W1 S d rb ob a cap s y :=
 ⟨h.rf.step k (by simp), h.pr.step k (by simp), h.po.step k (by simp), h.ne, h.no, h.st.trans ((k.drop (S'' := []) (by simp)).keep _)⟩
theorem LdH.set (h : LdH w W S d rb ob a cap s y) (hb : Blk W1 ob 33 (snc x).toArray) (k : Step [ob] [ob] W W1) : LdH w W1 S d rb ob a cap s x :=
 ⟨h.rf.step k (fun z hz hm => by simp at hm; subst hm; exact h.no hz), h.pr.step k (by simpa using h.ne), hb, h.ne, h.no, h.st.trans (k.wide (by simp) (by intro j hj; exact .inl hj))⟩
theorem LdH.far (h : LdH w W S d rb ob a cap s y) {nb : Nat} (k : Step [nb] [nb] W W1) (hd : nb ∉ S) (h1 : nb ≠ rb) (h2 : nb ≠ ob) (h3 : w.heap.size ≤ nb) : LdH w W1 S d rb ob a cap s y :=
 ⟨h.rf.step k (fun z hz hm => by simp at hm; subst hm; exact hd hz), h.pr.step k (by simpa using fun e => h1 e.symm), h.po.step k (by simpa using fun e => h2 e.symm), h.ne, h.no,
  ((h.st.wide (T := []) (S'' := [nb, ob, rb]) (by simp) (fun j hj => by
   rcases List.mem_cons.1 hj with rfl | hj
   ·exact .inr (.inr h3)
   ·exact .inr (.inl hj))).trans (k.wide (T := [nb, ob, rb]) (S'' := [nb, ob, rb]) (by simp) (by intro j hj; exact .inl hj))).drop (by simp)⟩
end
set_option maxHeartbeats 4000000 in
theorem rload_any (w : World) (S : List Nat) (d : Nat) (s : St) (h : Rf w S d s) (k : Nat) (hO : Ok6 s k) (hr : ERis s.E) (ho : s.off = false) : Calls Tryz.prog 21 #[.pointer (some ⟨d, 0, none⟩)] w fun e w' => e = .returned (.tuple #[snV (loadS s).1, .bool (loadS s).2]) ∧ Step [] [] w w' := by
 have HRI := Lib.hid hr
 have HOK := Lib.hid hO
 have HOF := Lib.hid ho
 obtain ⟨a, cap, hf⟩ := h
 go_enter Tryz.func21, Tryz.ntmps21
 go_upto_region 2 with fail
 obtain ⟨rb, hrb⟩ : ∃ rb, rb = w.heap.size := ⟨_, rfl⟩
 obtain ⟨V, hV⟩ : ∃ V, V = (w.alloc (.cells (snc sn0).toArray 33)).alloc (.cells (snc rfirst).toArray 33) := ⟨_, rfl⟩
 have H0 : Hid (LdH w V S d rb (rb + 1) a cap s rfirst) := by
  have h1 : (w.alloc (.cells (snc sn0).toArray 33)).heap.size = w.heap.size + 1 := by simp
  have b1 := Blk.new (w.alloc (.cells (snc sn0).toArray 33)) 33 (snc rfirst).toArray
  have k1 := ((Step.refl [] w).hold (.cells (snc sn0).toArray 33)).hold (.cells (snc rfirst).toArray 33)
  rw [h1] at b1 k1
  subst hV hrb
  exact ⟨hf.step (((Step.refl [] w).alloc _).alloc _) (by simp), (Blk.new w _ _).alloc _, b1, by omega, fun hm => by have := hf.lt _ hm; omega, k1⟩
 change Code.wp _ _ _ _ ((w.alloc (.cells (snc sn0).toArray 33)).alloc (.cells (snc rfirst).toArray 33))
 rw [← hV]
 try rw [← hrb]
 obtain ⟨ob, hob⟩ : ∃ ob, ob = rb + 1 := ⟨_, rfl⟩
 rw [← hob] at H0
 try rw [← hob]
 clear hV hrb hob hf
 obtain ⟨n, hn⟩ : ∃ n, n = s.E.length := ⟨_, rfl⟩
 have hnl : n ≤ 1099511627776 := by rw [hn]; exact hO.b.len
 have HN : Hid (s.E.length = n) := Lib.hid hn.symm
 clear hn hr hO ho
 go_wp2_with fail
 go_loopw [5] (fun i W => ∃ (j : Nat) (y : Sn), i = .int .i64 j ∧ j ≤ n ∧ Hid (LdH w W S d rb ob a cap s y ∧ y = (s.E.take j).foldl rstepE rfirst)) (fun i _ => n - (intOf i).toNat)
 case atStart => exact ⟨0, rfirst, rfl, by omega, Lib.hid ⟨H0.out, rfl⟩⟩
 case round =>
  rename World => W
  obtain ⟨j, y, rfl, hj, HW⟩ := hrel
  clear H0
  have c0 := HW.out.1.rf.blk.cell 0
  simp only [List.getElem?_toArray, List.getElem?_cons_zero, List.getElem?_cons_succ] at c0
  rw [HN.out] at c0
  have dl := HW.out.1.rf.blk.lt
  by_cases hlt : j < n
  ·have hlt' : (j : Int) < n := by omega
   have hld : decide ((j : Int) < n) = true := decide_eq_true hlt'
   obtain ⟨e, he⟩ : ∃ e, s.E[j]? = some e := ⟨_, List.getElem?_eq_getElem (by rw [HN.out]; exact hlt)⟩
   have HE := Lib.hid he
   have hel : e.d.length + e.l.length ≤ 8388608 := Nat.le_trans (used_mem (List.mem_of_getElem? he)) HOK.out.b.used
   obtain ⟨g, off, hs1⟩ := HW.out.1.rf.row.rd.some_ (by rw [HN.out]; omega)
   subst hs1
   clear he
   go_upto_region 5 with fail
   clear c0 dl
   obtain ⟨V, hV⟩ : ∃ V, V = W.drew := ⟨_, rfl⟩
   have HV : Hid (LdH w V S d rb ob (some ⟨g, off, none⟩) cap s y) := by rw [hV]; exact HW.out.1.quiet ((Step.refl [] W).drew)
   refine wp_region_held_drew (S := fun W => Hid (LdH w W S d rb ob (some ⟨g, off, none⟩) cap s y)) (by kernel_rfl) (by rw [← hV]; exact HV) (fun hHeld => ?_)
   rw [← hV] at hHeld ⊢
   clear hV
   refine wpAnyH_take (i := 0) (v := ?_) rfl (by kernel_rfl) (by kernel_rfl) (by kernel_rfl) (fun _ _ _ h => h) (Or.inl ⟨by rfl, ?_⟩) hHeld ?_
   rotate_left
   ·intro w hSw1
    try dsimp only at hSw1
    go_simp
    try (with_reducible rfl)
   try simp only [Act.put, LsA, LsB, LsC, LsD, LsE, LsF]
   refine wpAnyH_take (i := 1) (v := ?_) rfl (by kernel_rfl) (by kernel_rfl) (by kernel_rfl) (fun _ _ _ h => h) (Or.inl ⟨by rfl, ?_⟩) hHeld ?_
   rotate_left
   ·intro w hSw1
    have z := hSw1.out.rf.blk.cell 0
    simp only [List.getElem?_toArray, List.getElem?_cons_zero, List.getElem?_cons_succ] at z
    have dl := hSw1.out.rf.blk.lt
    rw [HN.out] at z
    go_simp
    try (with_reducible rfl)
   try simp only [Act.put, LsA, LsB, LsC, LsD, LsE, LsF]
   refine wpAnyH_take (i := 2) (v := ?_) rfl (by kernel_rfl) (by kernel_rfl) (by kernel_rfl) (fun _ _ _ h => h) (Or.inl ⟨by rfl, ?_⟩) hHeld ?_
   rotate_left
   ·intro w hSw1
    have z := hSw1.out.rf.blk.cell 0
    simp only [List.getElem?_toArray, List.getElem?_cons_zero, List.getElem?_cons_succ] at z
    have dl := hSw1.out.rf.blk.lt
    rw [HN.out] at z
    go_simp
    try (with_reducible rfl)
   try simp only [Act.put, LsA, LsB, LsC, LsD, LsE, LsF]
   refine wpAnyH_take (i := 3) (v := ?_) rfl (by kernel_rfl) (by kernel_rfl) (by kernel_rfl) (fun _ _ _ h => h) (Or.inl ⟨by rfl, ?_⟩) hHeld ?_
   rotate_left
   ·intro w hSw1
    have z := hSw1.out.rf.blk.cell 0
    simp only [List.getElem?_toArray, List.getElem?_cons_zero, List.getElem?_cons_succ] at z
    have dl := hSw1.out.rf.blk.lt
    rw [HN.out] at z
    go_simp
    try (with_reducible rfl)
   try simp only [Act.put, LsA, LsB, LsC, LsD, LsE, LsF]
   refine wpAnyH_take (i := 4) (v := ?_) rfl (by kernel_rfl) (by kernel_rfl) (by kernel_rfl) (fun _ _ _ h => h) (Or.inl ⟨by rfl, ?_⟩) hHeld ?_
   rotate_left
   ·intro w hSw1
    try dsimp only at hSw1
    go_simp
    try (with_reducible rfl)
   try simp only [Act.put, LsA, LsB, LsC, LsD, LsE, LsF]
   refine wpAnyH_take (i := 5) (v := ?_) rfl (by kernel_rfl) (by kernel_rfl) (by kernel_rfl) (fun _ _ _ h => h) (Or.inl ⟨by rfl, ?_⟩) hHeld ?_
   rotate_left
   ·intro w hSw1
    have gl : g < w.heap.size := hSw1.out.rf.row.lt g (by simp [blks])
    go_simp
    try (with_reducible rfl)
   try simp only [Act.put, LsA, LsB, LsC, LsD, LsE, LsF]
   refine wpAnyH_take (i := 6) (v := ?_) rfl (by kernel_rfl) (by kernel_rfl) (by kernel_rfl) (fun _ _ _ h => h) (Or.inl ⟨by rfl, ?_⟩) hHeld ?_
   rotate_left
   ·intro w hSw1
    have gl : g < w.heap.size := hSw1.out.rf.row.lt g (by simp [blks])
    go_simp
    try (with_reducible rfl)
   try simp only [Act.put, LsA, LsB, LsC, LsD, LsE, LsF]
   refine wpAnyH_take (i := 7) (v := ?_) rfl (by kernel_rfl) (by kernel_rfl) (by kernel_rfl) (fun _ _ _ h => h) (Or.inl ⟨by rfl, ?_⟩) hHeld ?_
   rotate_left
   ·intro w hSw1
    obtain ⟨z0, z1, z2⟩ := rd_en hSw1.out.rf.row.rd HE.out
    have gl : g < w.heap.size := by have := World.block_lt_of_cell? _ _ z0; simpa using this
    go_simp
    try (with_reducible rfl)
   try simp only [Act.put, LsA, LsB, LsC, LsD, LsE, LsF]
   refine wpAnyH_take (i := 8) (v := ?_) rfl (by kernel_rfl) (by kernel_rfl) (by kernel_rfl) (fun _ _ _ h => h) (Or.inl ⟨by rfl, ?_⟩) hHeld ?_
   rotate_left
   ·intro w hSw1
    try dsimp only at hSw1
    go_simp
    try (with_reducible rfl)
   try simp only [Act.put, LsA, LsB, LsC, LsD, LsE, LsF]
   refine wpAnyH_take (i := 9) (v := ?_) rfl (by kernel_rfl) (by kernel_rfl) (by kernel_rfl) (fun _ _ _ h => h) (Or.inl ⟨by rfl, ?_⟩) hHeld ?_
   rotate_left
   ·intro w hSw1
    have z := hSw1.out.rf.blk.cell 0
    simp only [List.getElem?_toArray, List.getElem?_cons_zero, List.getElem?_cons_succ] at z
    have dl := hSw1.out.rf.blk.lt
    rw [HN.out] at z
    go_simp
    try (with_reducible rfl)
   try simp only [Act.put, LsA, LsB, LsC, LsD, LsE, LsF]
   refine wpAnyH_take (i := 10) (v := ?_) rfl (by kernel_rfl) (by kernel_rfl) (by kernel_rfl) (fun _ _ _ h => h) (Or.inl ⟨by rfl, ?_⟩) hHeld ?_
   rotate_left
   ·intro w hSw1
    have z := hSw1.out.rf.blk.cell 0
    simp only [List.getElem?_toArray, List.getElem?_cons_zero, List.getElem?_cons_succ] at z
    have dl := hSw1.out.rf.blk.lt
    rw [HN.out] at z
    go_simp
    try (with_reducible rfl)
   try simp only [Act.put, LsA, LsB, LsC, LsD, LsE, LsF]
   refine wpAnyH_take (i := 11) (v := ?_) rfl (by kernel_rfl) (by kernel_rfl) (by kernel_rfl) (fun _ _ _ h => h) (Or.inl ⟨by rfl, ?_⟩) hHeld ?_
   rotate_left
   ·intro w hSw1
    have z := hSw1.out.rf.blk.cell 0
    simp only [List.getElem?_toArray, List.getElem?_cons_zero, List.getElem?_cons_succ] at z
    have dl := hSw1.out.rf.blk.lt
    rw [HN.out] at z
    go_simp
    try (with_reducible rfl)
   try simp only [Act.put, LsA, LsB, LsC, LsD, LsE, LsF]
   refine wpAnyH_take (i := 12) (v := ?_) rfl (by kernel_rfl) (by kernel_rfl) (by kernel_rfl) (fun _ _ _ h => h) (Or.inl ⟨by rfl, ?_⟩) hHeld ?_
   rotate_left
   ·intro w hSw1
    try dsimp only at hSw1
    go_simp
    try (with_reducible rfl)
   try simp only [Act.put, LsA, LsB, LsC, LsD, LsE, LsF]
   refine wpAnyH_take (i := 13) (v := ?_) rfl (by kernel_rfl) (by kernel_rfl) (by kernel_rfl) (fun _ _ _ h => h) (Or.inl ⟨by rfl, ?_⟩) hHeld ?_
   rotate_left
   ·intro w hSw1
    have gl : g < w.heap.size := hSw1.out.rf.row.lt g (by simp [blks])
    go_simp
    try (with_reducible rfl)
   try simp only [Act.put, LsA, LsB, LsC, LsD, LsE, LsF]
   refine wpAnyH_take (i := 14) (v := ?_) rfl (by kernel_rfl) (by kernel_rfl) (by kernel_rfl) (fun _ _ _ h => h) (Or.inl ⟨by rfl, ?_⟩) hHeld ?_
   rotate_left
   ·intro w hSw1
    have gl : g < w.heap.size := hSw1.out.rf.row.lt g (by simp [blks])
    go_simp
    try (with_reducible rfl)
   try simp only [Act.put, LsA, LsB, LsC, LsD, LsE, LsF]
   refine wpAnyH_take (i := 15) (v := ?_) rfl (by kernel_rfl) (by kernel_rfl) (by kernel_rfl) (fun _ _ _ h => h) (Or.inl ⟨by rfl, ?_⟩) hHeld ?_
   rotate_left
   ·intro w hSw1
    obtain ⟨z0, z1, z2⟩ := rd_en hSw1.out.rf.row.rd HE.out
    have gl : g < w.heap.size := by have := World.block_lt_of_cell? _ _ z0; simpa using this
    go_simp
    try (with_reducible rfl)
   try simp only [Act.put, LsA, LsB, LsC, LsD, LsE, LsF]
   refine wpAnyH_take (i := 16) (v := ?_) rfl (by kernel_rfl) (by kernel_rfl) (by kernel_rfl) (fun _ _ _ h => h) (Or.inl ⟨by rfl, ?_⟩) hHeld ?_
   rotate_left
   ·intro w hSw1
    try dsimp only at hSw1
    go_simp
    try (with_reducible rfl)
   try simp only [Act.put, LsA, LsB, LsC, LsD, LsE, LsF]
   refine wpAnyH_take (i := 17) (v := ?_) rfl (by kernel_rfl) (by kernel_rfl) (by kernel_rfl) (fun _ _ _ h => h) (Or.inl ⟨by rfl, ?_⟩) hHeld ?_
   rotate_left
   ·intro w hSw1
    have z := hSw1.out.rf.blk.cell 0
    simp only [List.getElem?_toArray, List.getElem?_cons_zero, List.getElem?_cons_succ] at z
    have dl := hSw1.out.rf.blk.lt
    rw [HN.out] at z
    go_simp
    try (with_reducible rfl)
   try simp only [Act.put, LsA, LsB, LsC, LsD, LsE, LsF]
   refine wpAnyH_take (i := 18) (v := ?_) rfl (by kernel_rfl) (by kernel_rfl) (by kernel_rfl) (fun _ _ _ h => h) (Or.inl ⟨by rfl, ?_⟩) hHeld ?_
   rotate_left
   ·intro w hSw1
    have z := hSw1.out.rf.blk.cell 0
    simp only [List.getElem?_toArray, List.getElem?_cons_zero, List.getElem?_cons_succ] at z
    have dl := hSw1.out.rf.blk.lt
    rw [HN.out] at z
    go_simp
    try (with_reducible rfl)
   try simp only [Act.put, LsA, LsB, LsC, LsD, LsE, LsF]
   refine wpAnyH_take (i := 19) (v := ?_) rfl (by kernel_rfl) (by kernel_rfl) (by kernel_rfl) (fun _ _ _ h => h) (Or.inl ⟨by rfl, ?_⟩) hHeld ?_
   rotate_left
   ·intro w hSw1
    have z := hSw1.out.rf.blk.cell 0
    simp only [List.getElem?_toArray, List.getElem?_cons_zero, List.getElem?_cons_succ] at z
    have dl := hSw1.out.rf.blk.lt
    rw [HN.out] at z
    go_simp
    try (with_reducible rfl)
   try simp only [Act.put, LsA, LsB, LsC, LsD, LsE, LsF]
   refine wpAnyH_take (i := 20) (v := ?_) rfl (by kernel_rfl) (by kernel_rfl) (by kernel_rfl) (fun _ _ _ h => h) (Or.inl ⟨by rfl, ?_⟩) hHeld ?_
   rotate_left
   ·intro w hSw1
    try dsimp only at hSw1
    go_simp
    try (with_reducible rfl)
   try simp only [Act.put, LsA, LsB, LsC, LsD, LsE, LsF]
   refine wpAnyH_take (i := 21) (v := ?_) rfl (by kernel_rfl) (by kernel_rfl) (by kernel_rfl) (fun _ _ _ h => h) (Or.inl ⟨by rfl, ?_⟩) hHeld ?_
   rotate_left
   ·intro w hSw1
    have gl : g < w.heap.size := hSw1.out.rf.row.lt g (by simp [blks])
    go_simp
    try (with_reducible rfl)
   try simp only [Act.put, LsA, LsB, LsC, LsD, LsE, LsF]
   refine wpAnyH_take (i := 22) (v := ?_) rfl (by kernel_rfl) (by kernel_rfl) (by kernel_rfl) (fun _ _ _ h => h) (Or.inl ⟨by rfl, ?_⟩) hHeld ?_
   rotate_left
   ·intro w hSw1
    have gl : g < w.heap.size := hSw1.out.rf.row.lt g (by simp [blks])
    go_simp
    try (with_reducible rfl)
   try simp only [Act.put, LsA, LsB, LsC, LsD, LsE, LsF]
   refine wpAnyH_take (i := 23) (v := ?_) rfl (by kernel_rfl) (by kernel_rfl) (by kernel_rfl) (fun _ _ _ h => h) (Or.inl ⟨by rfl, ?_⟩) hHeld ?_
   rotate_left
   ·intro w hSw1
    obtain ⟨z0, z1, z2⟩ := rd_en hSw1.out.rf.row.rd HE.out
    have gl : g < w.heap.size := by have := World.block_lt_of_cell? _ _ z0; simpa using this
    go_simp
    try (with_reducible rfl)
   try simp only [Act.put, LsA, LsB, LsC, LsD, LsE, LsF]
   refine wpAnyH_take (i := 24) (v := ?_) rfl (by kernel_rfl) (by kernel_rfl) (by kernel_rfl) (fun _ _ _ h => h) (Or.inl ⟨by rfl, ?_⟩) hHeld ?_
   rotate_left
   ·intro w hSw1
    have q : ¬ 9223372036854775807 < e.d.length + e.l.length := by omega
    go_simp
    try (with_reducible rfl)
   try simp only [Act.put, LsA, LsB, LsC, LsD, LsE, LsF]
   refine wpAnyH_ready (rs := [25, 29]) (by kernel_rfl) (by simp) ?_
   refine AllReadyH.cons rfl (fun K hK => ?_) (AllReadyH.cons rfl (fun K hK => ?_) (AllReadyH.nil))
   ·skip
    go_simp
    refine (whole8_any e.n (e.d ++ e.l) (by simp; omega) _).mono ?_; rintro e9 w9 ⟨rfl, k9⟩; have H9 := Lib.hid (hHeld.out.quiet k9); clear k9
    go_wp2_with fail
    refine hK.out _ _ (H9) (fun hHeld2 => ?_)
    clear hK K hHeld
    try simp only [Act.put, LsA, LsB, LsC, LsD, LsE, LsF]
    refine wpAnyH_take (i := 26) (v := ?_) rfl (by kernel_rfl) (by kernel_rfl) (by kernel_rfl) (fun _ _ _ h => h) (Or.inl ⟨by rfl, ?_⟩) hHeld2 ?_
    rotate_left
    ·intro w hSw1
     try dsimp only at hSw1
     go_simp
     try (with_reducible rfl)
    try simp only [Act.put, LsA, LsB, LsC, LsD, LsE, LsF]
    refine wpAnyH_take (i := 27) (v := ?_) rfl (by kernel_rfl) (by kernel_rfl) (by kernel_rfl) (fun _ _ _ h => h) (Or.inl ⟨by rfl, ?_⟩) hHeld2 ?_
    rotate_left
    ·intro w hSw1
     try dsimp only at hSw1
     go_simp
     try (with_reducible rfl)
    try simp only [Act.put, LsA, LsB, LsC, LsD, LsE, LsF]
    refine wpAnyH_take (i := 28) (v := ?_) rfl (by kernel_rfl) (by kernel_rfl) (by kernel_rfl) (fun _ _ _ h => h) (Or.inl ⟨by rfl, ?_⟩) hHeld2 ?_
    rotate_left
    ·intro w hSw1
     try dsimp only at hSw1
     go_simp
     try (with_reducible rfl)
    try simp only [Act.put, LsA, LsB, LsC, LsD, LsE, LsF]
    refine wpAnyH_ready (rs := [29]) (by kernel_rfl) (by simp) ?_
    refine AllReadyH.cons rfl (fun K hK => ?_) AllReadyH.nil
    go_simp
    have HNB := Lib.hid (Blk.new w9 33 (snc sn0).toArray); have HNF : Hid (w9.heap.size ∉ S ∧ w9.heap.size ≠ rb ∧ w9.heap.size ≠ ob ∧ w.heap.size ≤ w9.heap.size) := Lib.hid ⟨fun hm => by have := hHeld2.out.rf.lt _ hm; omega, fun e => by have := hHeld2.out.pr.lt; omega, fun e => by have := hHeld2.out.po.lt; omega, hHeld2.out.st.size⟩; have HAL := Lib.hid (hHeld2.out.quiet ((Step.refl [] w9).alloc (.cells (snc sn0).toArray 33)))
    go_wp2_with fail
    refine hK.out _ _ (HAL) (fun hHeld3 => ?_)
    clear hK K hHeld2
    try simp only [Act.put, LsA, LsB, LsC, LsD, LsE, LsF]
    refine wpAnyH_ready (rs := [30]) (by kernel_rfl) (by simp) ?_
    refine AllReadyH.cons rfl (fun K hK => ?_) AllReadyH.nil
    refine step_storeOff (v := snV (wholeV e.n (e.d ++ e.l)).1) (b := w9.heap.size) (i := 0) (T := 33) (T' := 33) (cs := (snc sn0).toArray) (cs' := (snc (wholeV e.n (e.d ++ e.l)).1).toArray) rfl (.tmp 6) (.tmp 45) rfl rfl rfl (by kernel_rfl) HNB.out (by simp [Value.cells, snc]) (by simp [Value.cells, Value.oneCell']) rfl ?_; intro U ub uk; have HU := Lib.hid (hHeld3.out.far uk HNF.out.1 HNF.out.2.1 HNF.out.2.2.1 HNF.out.2.2.2); have HUB := Lib.hid ub; clear ub uk
    refine hK.out _ _ (HU) (fun hHeld4 => ?_)
    clear hK K hHeld3
    try simp only [Act.put, LsA, LsB, LsC, LsD, LsE, LsF]
    refine wpAnyH_take (i := 31) (v := ?_) rfl (by kernel_rfl) (by kernel_rfl) (by kernel_rfl) (fun _ _ _ h => h) (Or.inl ⟨by rfl, ?_⟩) hHeld4 ?_
    rotate_left
    ·intro w hSw1
     try dsimp only at hSw1
     go_simp
     try (with_reducible rfl)
    try simp only [Act.put, LsA, LsB, LsC, LsD, LsE, LsF]
    refine wpAnyH_done (by kernel_rfl) ?_ _
    obtain ⟨x, hx⟩ : ∃ x, x = (wholeV e.n (e.d ++ e.l)).1 := ⟨_, rfl⟩
    obtain ⟨ok, hok⟩ : ∃ ok, ok = (wholeV e.n (e.d ++ e.l)).2 := ⟨_, rfl⟩
    have HST : Hid ((s.E.take (j + 1)).foldl rstepE rfirst = if ok = true ∧ y.i < x.i then x else y) := Lib.hid (by
     rw [List.take_add_one, HE.out, List.foldl_append, ← HW.out.2, hx, hok]
     rfl)
    rw [← hx] at HUB
    try rw [← hx]
    rw [← hok]
    clear hx hok
    obtain ⟨nb, hnb⟩ : ∃ nb, nb = w9.heap.size := ⟨_, rfl⟩
    rw [← hnb] at HUB ⊢
    clear hnb
    have cc := HUB.out.cell
    have f0 := cc 0
    have f1 := cc 1
    have f2 := cc 2
    clear cc
    have y0 := HU.out.po.cell 0
    simp only [snc, List.getElem?_toArray, List.getElem?_cons_zero, List.getElem?_cons_succ] at f0 f1 f2 y0
    cases ok with
    | false =>
     go_wp2_with fail
     go_roundw
     case rel => exact ⟨j + 1, y, by go_num, by omega, Lib.hid ⟨HU.out, by rw [HST.out, if_neg (by simp)]⟩⟩
     case measure => simp [intOf]; omega
    | true =>
     by_cases hi : y.i < x.i
     ·have hd : decide (y.i < x.i) = true := decide_eq_true hi
      have HPO : Hid (Blk U ob 33 (snc y).toArray) := Lib.hid HU.out.po
      go_wp2_with (refine wpList_storeRow (T := 33) (b := ob) (T' := 33) (cs := (snc y).toArray) (vs := (snc x).toArray) rfl (.tmp 4) (.tmp 55) rfl rfl rfl Tryz.sSnap HPO.out rfl (snc_one x) ?_; intro U2 ub2 uk2)
      go_roundw
      case rel => exact ⟨j + 1, x, by go_num, by omega, Lib.hid ⟨HU.out.set ub2 uk2, by rw [HST.out, if_pos ⟨rfl, hi⟩]⟩⟩
      case measure => simp [intOf]; omega
     ·have hd : decide (y.i < x.i) = false := decide_eq_false hi
      go_wp2_with fail
      go_roundw
      case rel => exact ⟨j + 1, y, by go_num, by omega, Lib.hid ⟨HU.out, by rw [HST.out, if_neg (fun h => hi h.2)]⟩⟩
      case measure => simp [intOf]; omega
   ·skip
    go_simp
    have HNB := Lib.hid (Blk.new V 33 (snc sn0).toArray); have HNF : Hid (V.heap.size ∉ S ∧ V.heap.size ≠ rb ∧ V.heap.size ≠ ob ∧ w.heap.size ≤ V.heap.size) := Lib.hid ⟨fun hm => by have := hHeld.out.rf.lt _ hm; omega, fun e => by have := hHeld.out.pr.lt; omega, fun e => by have := hHeld.out.po.lt; omega, hHeld.out.st.size⟩; have HAL := Lib.hid (hHeld.out.quiet ((Step.refl [] V).alloc (.cells (snc sn0).toArray 33)))
    go_wp2_with fail
    refine hK.out _ _ (HAL) (fun hHeld2 => ?_)
    clear hK K hHeld
    try simp only [Act.put, LsA, LsB, LsC, LsD, LsE, LsF]
    refine wpAnyH_ready (rs := [25]) (by kernel_rfl) (by simp) ?_
    refine AllReadyH.cons rfl (fun K hK => ?_) AllReadyH.nil
    go_simp
    refine (whole8_any e.n (e.d ++ e.l) (by simp; omega) _).mono ?_; rintro e9 w9 ⟨rfl, k9⟩; have H9 := Lib.hid (hHeld2.out.quiet k9); have HB9 := Lib.hid (HNB.out.step k9 (by simp)); clear k9
    go_wp2_with fail
    refine hK.out _ _ (H9) (fun hHeld3 => ?_)
    clear hK K hHeld2
    try simp only [Act.put, LsA, LsB, LsC, LsD, LsE, LsF]
    refine wpAnyH_take (i := 26) (v := ?_) rfl (by kernel_rfl) (by kernel_rfl) (by kernel_rfl) (fun _ _ _ h => h) (Or.inl ⟨by rfl, ?_⟩) hHeld3 ?_
    rotate_left
    ·intro w hSw1
     try dsimp only at hSw1
     go_simp
     try (with_reducible rfl)
    try simp only [Act.put, LsA, LsB, LsC, LsD, LsE, LsF]
    refine wpAnyH_take (i := 27) (v := ?_) rfl (by kernel_rfl) (by kernel_rfl) (by kernel_rfl) (fun _ _ _ h => h) (Or.inl ⟨by rfl, ?_⟩) hHeld3 ?_
    rotate_left
    ·intro w hSw1
     try dsimp only at hSw1
     go_simp
     try (with_reducible rfl)
    try simp only [Act.put, LsA, LsB, LsC, LsD, LsE, LsF]
    refine wpAnyH_take (i := 28) (v := ?_) rfl (by kernel_rfl) (by kernel_rfl) (by kernel_rfl) (fun _ _ _ h => h) (Or.inl ⟨by rfl, ?_⟩) hHeld3 ?_
    rotate_left
    ·intro w hSw1
     try dsimp only at hSw1
     go_simp
     try (with_reducible rfl)
    try simp only [Act.put, LsA, LsB, LsC, LsD, LsE, LsF]
    refine wpAnyH_ready (rs := [30]) (by kernel_rfl) (by simp) ?_
    refine AllReadyH.cons rfl (fun K hK => ?_) AllReadyH.nil
    refine step_storeOff (v := snV (wholeV e.n (e.d ++ e.l)).1) (b := V.heap.size) (i := 0) (T := 33) (T' := 33) (cs := (snc sn0).toArray) (cs' := (snc (wholeV e.n (e.d ++ e.l)).1).toArray) rfl (.tmp 6) (.tmp 45) rfl rfl rfl (by kernel_rfl) HB9.out (by simp [Value.cells, snc]) (by simp [Value.cells, Value.oneCell']) rfl ?_; intro U ub uk; have HU := Lib.hid (hHeld3.out.far uk HNF.out.1 HNF.out.2.1 HNF.out.2.2.1 HNF.out.2.2.2); have HUB := Lib.hid ub; clear ub uk
    refine hK.out _ _ (HU) (fun hHeld4 => ?_)
    clear hK K hHeld3
    try simp only [Act.put, LsA, LsB, LsC, LsD, LsE, LsF]
    refine wpAnyH_take (i := 31) (v := ?_) rfl (by kernel_rfl) (by kernel_rfl) (by kernel_rfl) (fun _ _ _ h => h) (Or.inl ⟨by rfl, ?_⟩) hHeld4 ?_
    rotate_left
    ·intro w hSw1
     try dsimp only at hSw1
     go_simp
     try (with_reducible rfl)
    try simp only [Act.put, LsA, LsB, LsC, LsD, LsE, LsF]
    refine wpAnyH_done (by kernel_rfl) ?_ _
    obtain ⟨x, hx⟩ : ∃ x, x = (wholeV e.n (e.d ++ e.l)).1 := ⟨_, rfl⟩
    obtain ⟨ok, hok⟩ : ∃ ok, ok = (wholeV e.n (e.d ++ e.l)).2 := ⟨_, rfl⟩
    have HST : Hid ((s.E.take (j + 1)).foldl rstepE rfirst = if ok = true ∧ y.i < x.i then x else y) := Lib.hid (by
     rw [List.take_add_one, HE.out, List.foldl_append, ← HW.out.2, hx, hok]
     rfl)
    rw [← hx] at HUB
    try rw [← hx]
    rw [← hok]
    clear hx hok
    obtain ⟨nb, hnb⟩ : ∃ nb, nb = V.heap.size := ⟨_, rfl⟩
    rw [← hnb] at HUB ⊢
    clear hnb
    have cc := HUB.out.cell
    have f0 := cc 0
    have f1 := cc 1
    have f2 := cc 2
    clear cc
    have y0 := HU.out.po.cell 0
    simp only [snc, List.getElem?_toArray, List.getElem?_cons_zero, List.getElem?_cons_succ] at f0 f1 f2 y0
    cases ok with
    | false =>
     go_wp2_with fail
     go_roundw
     case rel => exact ⟨j + 1, y, by go_num, by omega, Lib.hid ⟨HU.out, by rw [HST.out, if_neg (by simp)]⟩⟩
     case measure => simp [intOf]; omega
    | true =>
     by_cases hi : y.i < x.i
     ·have hd : decide (y.i < x.i) = true := decide_eq_true hi
      have HPO : Hid (Blk U ob 33 (snc y).toArray) := Lib.hid HU.out.po
      go_wp2_with (refine wpList_storeRow (T := 33) (b := ob) (T' := 33) (cs := (snc y).toArray) (vs := (snc x).toArray) rfl (.tmp 4) (.tmp 55) rfl rfl rfl Tryz.sSnap HPO.out rfl (snc_one x) ?_; intro U2 ub2 uk2)
      go_roundw
      case rel => exact ⟨j + 1, x, by go_num, by omega, Lib.hid ⟨HU.out.set ub2 uk2, by rw [HST.out, if_pos ⟨rfl, hi⟩]⟩⟩
      case measure => simp [intOf]; omega
     ·have hd : decide (y.i < x.i) = false := decide_eq_false hi
      go_wp2_with fail
      go_roundw
      case rel => exact ⟨j + 1, y, by go_num, by omega, Lib.hid ⟨HU.out, by rw [HST.out, if_neg (fun h => hi h.2)]⟩⟩
      case measure => simp [intOf]; omega
  ·obtain rfl : j = n := by omega
   have hnl2 : ¬ (j : Int) < j := by omega
   have HY : Hid (loadS s = if y.i < 0 then (sn0, false) else (y, true)) := Lib.hid (by
    have h := HW.out.2
    rw [List.take_of_length_le (Nat.le_of_eq HN.out)] at h
    rw [h, rload_is HOF.out HRI.out])
   have y0 := HW.out.1.po.cell 0
   have y1 := HW.out.1.po.cell 1
   have y2 := HW.out.1.po.cell 2
   simp only [snc, List.getElem?_toArray, List.getElem?_cons_zero, List.getElem?_cons_succ] at y0 y1 y2
   have HPR : Hid (Blk W rb 33 (snc sn0).toArray) := Lib.hid HW.out.1.pr
   by_cases hi : y.i < 0
   ·have hd : decide (y.i < 0) = true := decide_eq_true hi
    have HZ : Hid (loadS s = (sn0, false)) := Lib.hid (by rw [HY.out, if_pos hi])
    clear hi
    go_wp2_with (refine wpList_storeRow (T := 33) (b := rb) (T' := 33) (cs := (snc sn0).toArray) (vs := (snc sn0).toArray) rfl (.tmp 2) (.tmp 59) rfl rfl rfl Tryz.sSnap HPR.out rfl (snc_one sn0) ?_; intro U ub uk)
    refine bodyPost_ret (res_row2 rfl _ rfl Tryz.sSnap ub) rfl ?_
    exact ⟨by rw [HZ.out]; rfl, (HW.out.1.st.trans (uk.wide (T := [ob, rb]) (S'' := [ob, rb]) (by simp) (by intro j hj; exact .inl hj))).drop (by simp)⟩
   ·have hd : decide (y.i < 0) = false := decide_eq_false hi
    have HZ : Hid (loadS s = (y, true)) := Lib.hid (by rw [HY.out, if_neg hi])
    clear hi
    go_wp2_with (refine wpList_storeRow (T := 33) (b := rb) (T' := 33) (cs := (snc sn0).toArray) (vs := (snc y).toArray) rfl (.tmp 2) (.tmp 60) rfl rfl rfl Tryz.sSnap HPR.out rfl (snc_one y) ?_; intro U ub uk)
    refine bodyPost_ret (res_row2 rfl _ rfl Tryz.sSnap ub) rfl ?_
    exact ⟨by rw [HZ.out]; rfl, (HW.out.1.st.trans (uk.wide (T := [ob, rb]) (S'' := [ob, rb]) (by simp) (by intro j hj; exact .inl hj))).drop (by simp)⟩

end Go.Proofs.YtjdgdmlhipbaaaaGreatDoor
namespace Go.Proofs.YtjdgdmlhipbaaaaGreatDoor
open Go.RowKit Go.Maps
set_option linter.unusedSimpArgs false
set_option linter.unusedVariables false
set_option maxRecDepth 100000

theorem Tryz.info_file8 : (Tryz.prog.info? 72).map (fun i => (i.zero, i.size, i.bytes)) = some (some (.agg #[.string ⟨#[]⟩, .string ⟨#[]⟩, .string ⟨#[]⟩]), 3, 48) := by kernel_rfl
structure ClR (w W : World) (S0 S : List Nat) (d sb : Nat) (fa : Option Addr) (fc : Nat) (E0 : List En) (s : St) (x : Sn) : Prop where
 rf : Rf W S d s
 row : Row W 3 fa E0.length fc (enVs E0)
 nf : ∀ z ∈ blks fa, z ∉ S
 pb : Blk W sb 33 (snc x).toArray
 nb : sb ∉ S
 st : Step S0 S w W
section
variable {w W W1 : World} {S0 S S' T : List Nat} {d sb fc : Nat} {fa : Option Addr} {E0 : List En} {s s' : St} {x : Sn}
theorem ClR.turn (h : ClR w W S0 S d sb fa fc E0 s x) (hD : Rf W1 S' d s') (k : Step S S' W W1) : ClR w W1 S0 S' d sb fa fc E0 s' x :=
 ⟨hD, h.row.step k h.nf, fun z hz => k.notin (h.row.lt z hz) (h.nf z hz), h.pb.step k h.nb, k.notin h.pb.lt h.nb, h.st.trans k⟩
theorem ClR.quiet (h : ClR w W S0 S d sb fa fc E0 s x) (k : Step [] T W W1) : ClR w W1 S0 S d sb fa fc E0 s x :=
 ⟨h.rf.keep k, h.row.step k (by simp), h.nf, h.pb.step k (by simp), h.nb, h.st.trans ((k.drop (S'' := []) (by simp)).keep _)⟩
theorem ClR.fin (h : ClR w W S0 S d sb fa fc E0 s x) {c : Int} {r : Int × St} (hr : r = (c, s)) : RfP r S0 d w (.returned (.int .i64 c)) W := by
 rw [hr]; exact ⟨rfl, S, h.rf, h.st⟩
end
theorem cleanL_skip {x : Sn} {t : Bool} {f : List UInt8} {r : List (List UInt8)} {s : St} (h : namedB f = false ∨ (t = true ∧ f = fileB x.i.toNat)) : cleanL x t (f :: r) s = cleanL x t r s := by
 rw [cleanL, if_pos h]
theorem cleanL_do {x : Sn} {t : Bool} {f : List UInt8} {r : List (List UInt8)} {s : St} (h : ¬ (namedB f = false ∨ (t = true ∧ f = fileB x.i.toNat))) :
  cleanL x t (f :: r) s = if (removeS s f).1 ≠ 0 then removeS s f else cleanL x t r (removeS s f).2 := by
 rw [cleanL, if_neg h]
set_option maxHeartbeats 4000000 in
theorem rclean_any (w : World) (S : List Nat) (d : Nat) (s : St) (h : Rf w S d s) (k : Nat) (hO : Ok6 s k) (hr : ERis s.E) : Calls Tryz.prog 11 #[.pointer (some ⟨d, 0, none⟩)] w (RfP (cleanS s) S d w) := by
 obtain ⟨i0, hi, hz0, hz1, hz2⟩ := info_parts Tryz.info_file8
 have HI := Lib.hid (And.intro hi (And.intro hz0 (And.intro hz1 hz2)))
 have HRI := Lib.hid hr
 have HOK := Lib.hid hO
 have HRF := Lib.hid h
 clear hi hz0 hz1 hz2 hr hO
 obtain ⟨a, cap, hf⟩ := h
 have c3 := hf.blk.cell 3
 simp only [List.getElem?_toArray, List.getElem?_cons_zero, List.getElem?_cons_succ] at c3
 have dl := hf.blk.lt
 clear hf
 go_enter Tryz.func11, Tryz.ntmps11
 cases ho : s.off with
 | true =>
  rw [ho] at c3
  have HZ : Hid (cleanS s = (7, s)) := Lib.hid (by unfold cleanS; rw [if_pos ho])
  clear ho
  go_wp2_with fail
  refine bodyPost_ret (results_tmp rfl _ _ _) rfl ?_
  rw [HZ.out]
  exact ⟨rfl, S, HRF.out, Step.refl _ _⟩
 | false =>
  rw [ho] at c3
  have HOF := Lib.hid ho
  clear ho
  go_wp2_with fail
  refine (rload_any w S d s HRF.out k HOK.out HRI.out HOF.out).mono ?_
  rintro e w1 ⟨rfl, k1⟩
  have H1 : Hid (Rf w1 S d s ∧ Step S S w w1) := Lib.hid ⟨HRF.out.keep k1, k1.keep S⟩
  clear k1 HRF c3 dl
  obtain ⟨x, hx⟩ : ∃ x, x = (loadS s).1 := ⟨_, rfl⟩
  obtain ⟨t, ht⟩ : ∃ t, t = (loadS s).2 := ⟨_, rfl⟩
  obtain ⟨tt, htt⟩ : ∃ tt, tt = t := ⟨_, rfl⟩
  have HTT := Lib.hid htt
  have HL : Hid (cleanS s = cleanL x tt (namesS s) s) := Lib.hid (by unfold cleanS; rw [HOF.out, htt, ← hx, ← ht]; rfl)
  have HRX : Hid (t = true → RSn x) := Lib.hid (by intro h; rw [hx]; exact loadS_right (by rw [← ht]; exact h))
  rw [← hx, ← ht]
  clear hx ht htt
  go_upto_region 4 with fail
  obtain ⟨sb, hsb⟩ : ∃ sb, sb = w1.heap.size := ⟨_, rfl⟩
  obtain ⟨V, hV⟩ : ∃ V, V = w1.alloc (.cells (snc x).toArray 33) := ⟨_, rfl⟩
  have H2 : Hid (Rf V S d s ∧ Step S S w V ∧ Blk V sb 33 (snc x).toArray ∧ sb ∉ S) := by
   subst hV hsb
   exact ⟨H1.out.1.keep ((Step.refl [] w1).alloc _), H1.out.2.alloc _, Blk.new w1 _ _, fun hm => by have := H1.out.1.lt _ hm; omega⟩
  change Code.wp _ _ _ _ (w1.alloc (.cells (snc x).toArray 33))
  rw [← hV]
  try rw [← hsb]
  clear hV hsb H1
  obtain ⟨a, cap, hf⟩ := H2.out.1
  have c0 := hf.blk.cell 0
  simp only [List.getElem?_toArray, List.getElem?_cons_zero, List.getElem?_cons_succ] at c0
  have dl := hf.blk.lt
  have HFF := Lib.hid hf
  have hel : s.E.length ≤ 1099511627776 := HOK.out.b.len
  obtain ⟨n, hn⟩ : ∃ n, n = s.E.length := ⟨_, rfl⟩
  rw [← hn] at c0 hel
  have HN := Lib.hid hn
  clear hf hn
  have HAP : Hid (Row (V.alloc (.cells #[] 72)) 3 (some ⟨V.heap.size, 0, none⟩) 0 0 [] ∧ Rd (V.alloc (.cells #[] 72)) 3 a n (enVs s.E)) := Lib.hid ⟨row_blk' (xs := []) (Blk.new V 72 #[]) 3 0 rfl (by unfold maxLen; omega), by rw [HN.out]; exact (HFF.out.row.alloc _).rd⟩
  go_wp2_with (at_builtin; refine wpList_append_row rfl (.tmp 18) (.tmp 22) 43 43 rfl 72 i0 _ 3 48 Tryz.underlying43 HI.out.1 HI.out.2.1 HI.out.2.2.1 HI.out.2.2.2 rfl rfl HAP.out.1 rfl (Src.rd 43 72 Tryz.underlying43 HAP.out.2 (enVs_one _)) (by unfold maxLen; omega) (by omega) (by omega) ?_; intro fa fc w2 hr2 st2; have H9 := Lib.hid (And.intro hr2 st2); clear hr2 st2)
  have k2 : Step [] (blks fa) V w2 := ((Step.refl [] V).hold (.cells #[] 72)).trans (by simpa [blks] using H9.out.2)
  have H3 : Hid (ClR w w2 S S d sb fa fc s.E s x) := Lib.hid ⟨H2.out.1.keep k2, by have h := H9.out.1; rw [Nat.zero_add, List.nil_append, HN.out] at h; exact h, fun z hz hm => by
   rcases k2.fresh z hz with h | h
   ·simp at h
   ·have := H2.out.1.lt z hm; omega, H2.out.2.2.1.step k2 (by simp), H2.out.2.2.2, H2.out.2.1.trans ((k2.drop (S'' := []) (by simp)).keep S)⟩
  obtain ⟨names, hnm⟩ : ∃ names, names = namesS s := ⟨_, rfl⟩
  have HNM : Hid (names = s.E.map En.n) := Lib.hid (by rw [hnm]; unfold namesS; rw [HOF.out]; rfl)
  rw [← hnm] at HL
  clear k2 H9 HAP H2 HFF c0 dl hnm
  go_wp2_with fail
  try simp only [Nat.zero_add]
  go_loopw [6] (fun i W => ∃ j : Nat, i = .int .i64 j ∧ j ≤ n ∧ Hid (∃ S1 s1, ClR w W S S1 d sb fa fc s.E s1 x ∧ cleanS s = cleanL x tt (names.drop j) s1 ∧ Ok6 s1 k ∧ ERis s1.E)) (fun i _ => n - (intOf i).toNat)
  case atStart => exact ⟨0, rfl, by omega, Lib.hid ⟨S, s, H3.out, HL.out, HOK.out, HRI.out⟩⟩
  case round =>
   rename World => W
   obtain ⟨j, rfl, hj, HW⟩ := hrel
   obtain ⟨S1, s1, hq1, hq2⟩ := HW.out
   have HQ := Lib.hid (And.intro hq1 hq2)
   clear hq1 hq2 HW H3
   by_cases hlt : j < n
   ·have hlt' : (j : Int) < n := by omega
    obtain ⟨e, he⟩ : ∃ e, s.E[j]? = some e := ⟨_, List.getElem?_eq_getElem (by rw [← HN.out]; exact hlt)⟩
    have HDR : Hid (names.drop j = e.n :: names.drop (j + 1)) := Lib.hid (by
     have hj2 : j < names.length := by rw [HNM.out, List.length_map, ← HN.out]; exact hlt
     rw [List.drop_eq_getElem_cons hj2]
     congr 1
     have : names[j]? = some e.n := by rw [HNM.out, List.getElem?_map, he]; rfl
     rw [List.getElem?_eq_getElem hj2] at this
     exact Option.some.inj this)
    obtain ⟨g, off, hs1⟩ := HQ.out.1.row.some_of_pos (by rw [← HN.out]; omega)
    subst hs1
    obtain ⟨z0, z1, z2⟩ := rd_en HQ.out.1.row.rd he
    have gl : g < W.heap.size := HQ.out.1.row.lt g (by simp [blks])
    obtain ⟨f, hf⟩ : ∃ f, f = e.n := ⟨_, rfl⟩
    rw [← hf] at z0 HDR
    clear he hf
    go_wp2_with fail
    clear z0 z1 z2 gl
    refine (rnamed_any f W).mono ?_
    rintro e5 w5 ⟨rfl, k5⟩
    have H5 := Lib.hid (HQ.out.1.quiet k5)
    clear k5
    cases hnm : namedB f with
    | false =>
     have HK : Hid (cleanS s = cleanL x tt (names.drop (j + 1)) s1) := Lib.hid (by rw [HQ.out.2.1, HDR.out, cleanL_skip (.inl hnm)])
     clear hnm
     go_wp2_with fail
     go_roundw
     case rel => exact ⟨j + 1, by go_num, by omega, Lib.hid ⟨S1, s1, H5.out, HK.out, HQ.out.2.2⟩⟩
     case measure => simp [intOf]; omega
    | true =>
     cases t with
     | false =>
      have HK : Hid (cleanS s = if (removeS s1 f).1 ≠ 0 then removeS s1 f else cleanL x tt (names.drop (j + 1)) (removeS s1 f).2) := Lib.hid (by rw [HQ.out.2.1, HDR.out, cleanL_do (by rw [hnm, HTT.out]; simp)])
      clear hnm
      go_wp2_with fail
      refine (rremove_any f _ _ d s1 H5.out.rf HQ.out.2.2.1.b HQ.out.2.2.2).mono ?_
      rintro e8 w8 ⟨rfl, S8, hD, k9⟩
      have H8 := Lib.hid (H5.out.turn hD k9)
      have HO8 := Lib.hid (And.intro (ok_remove HQ.out.2.2.1 f) (ris_remove HQ.out.2.2.2 f))
      clear hD k9
      obtain ⟨c1, hc1⟩ : ∃ z, z = (removeS s1 f).1 := ⟨_, rfl⟩
      obtain ⟨s2, hs2⟩ : ∃ z, z = (removeS s1 f).2 := ⟨_, rfl⟩
      have HRM : Hid (removeS s1 f = (c1, s2)) := Lib.hid (by rw [hc1, hs2])
      rw [← hs2] at H8 HO8
      rw [← hc1]
      clear hc1 hs2
      rw [HRM.out] at HK
      by_cases hz : c1 = 0
      ·have hzd : (c1 != 0) = false := by simpa using hz
       have HKK : Hid (cleanS s = cleanL x tt (names.drop (j + 1)) s2) := Lib.hid (by rw [HK.out, if_neg (by simpa using hz)])
       clear hz
       go_wp2_with fail
       go_roundw
       case rel => exact ⟨j + 1, by go_num, by omega, Lib.hid ⟨S8, s2, H8.out, HKK.out, HO8.out⟩⟩
       case measure => simp [intOf]; omega
      ·have hzd : (c1 != 0) = true := by simpa using hz
       have HKK : Hid (cleanS s = (c1, s2)) := Lib.hid (by rw [HK.out, if_pos (by simpa using hz)])
       clear hz
       go_wp2_with fail
       refine bodyPost_ret (results_tmp rfl _ _ _) rfl ?_
       exact H8.out.fin HKK.out
     | true =>
      have HX := Lib.hid (HRX.out rfl)
      obtain ⟨m, hm⟩ : ∃ m : Nat, x.i = m := ⟨x.i.toNat, by have := HX.out.i; omega⟩
      have hm2 : m ≤ 1099511627776 := by have := HX.out.i; omega
      have y0 := H5.out.pb.cell 0
      simp only [snc, List.getElem?_toArray, List.getElem?_cons_zero, List.getElem?_cons_succ] at y0
      rw [hm] at y0
      have HNA := Lib.hid hnm
      clear hnm
      go_wp2_with fail
      refine (rfile_any m hm2 w5).mono ?_
      rintro e6 w6 ⟨rfl, k6⟩
      have H6 := Lib.hid (H5.out.quiet k6)
      clear k6 y0
      obtain ⟨fb, hfb⟩ : ∃ fb, fb = fileB m := ⟨_, rfl⟩
      have HFB : Hid (fb = fileB x.i.toNat) := Lib.hid (by rw [hfb, hm]; rfl)
      rw [← hfb]
      clear hfb hm
      by_cases hff : f = fb
      ·have hfd : (f == fb) = true := by simpa using hff
       have HK : Hid (cleanS s = cleanL x tt (names.drop (j + 1)) s1) := Lib.hid (by rw [HQ.out.2.1, HDR.out, cleanL_skip (.inr ⟨HTT.out, by rw [hff]; exact HFB.out⟩)])
       clear hff
       go_wp2_with fail
       go_roundw
       case rel => exact ⟨j + 1, by go_num, by omega, Lib.hid ⟨S1, s1, H6.out, HK.out, HQ.out.2.2⟩⟩
       case measure => simp [intOf]; omega
      ·have hfd : (f == fb) = false := by simpa using hff
       have HK : Hid (cleanS s = if (removeS s1 f).1 ≠ 0 then removeS s1 f else cleanL x tt (names.drop (j + 1)) (removeS s1 f).2) := Lib.hid (by rw [HQ.out.2.1, HDR.out, cleanL_do (by rw [HNA.out, ← HFB.out]; simp; exact fun _ => hff)])
       clear hff
       go_wp2_with fail
       refine (rremove_any f _ _ d s1 H6.out.rf HQ.out.2.2.1.b HQ.out.2.2.2).mono ?_
       rintro e8 w8 ⟨rfl, S8, hD, k9⟩
       have H8 := Lib.hid (H6.out.turn hD k9)
       have HO8 := Lib.hid (And.intro (ok_remove HQ.out.2.2.1 f) (ris_remove HQ.out.2.2.2 f))
       clear hD k9
       obtain ⟨c1, hc1⟩ : ∃ z, z = (removeS s1 f).1 := ⟨_, rfl⟩
       obtain ⟨s2, hs2⟩ : ∃ z, z = (removeS s1 f).2 := ⟨_, rfl⟩
       have HRM : Hid (removeS s1 f = (c1, s2)) := Lib.hid (by rw [hc1, hs2])
       rw [← hs2] at H8 HO8
       rw [← hc1]
       clear hc1 hs2
       rw [HRM.out] at HK
       by_cases hz : c1 = 0
       ·have hzd : (c1 != 0) = false := by simpa using hz
        have HKK : Hid (cleanS s = cleanL x tt (names.drop (j + 1)) s2) := Lib.hid (by rw [HK.out, if_neg (by simpa using hz)])
        clear hz
        go_wp2_with fail
        go_roundw
        case rel => exact ⟨j + 1, by go_num, by omega, Lib.hid ⟨S8, s2, H8.out, HKK.out, HO8.out⟩⟩
        case measure => simp [intOf]; omega
       ·have hzd : (c1 != 0) = true := by simpa using hz
        have HKK : Hid (cleanS s = (c1, s2)) := Lib.hid (by rw [HK.out, if_pos (by simpa using hz)])
        clear hz
        go_wp2_with fail
        refine bodyPost_ret (results_tmp rfl _ _ _) rfl ?_
        exact H8.out.fin HKK.out
   ·obtain rfl : j = n := by omega
    have hnl : ¬ (j : Int) < j := by omega
    have HZ : Hid (cleanS s = (0, s1)) := Lib.hid (by rw [HQ.out.2.1, List.drop_of_length_le (by rw [HNM.out, List.length_map, ← HN.out]; exact Nat.le_refl _), cleanL])
    go_wp2_with fail
    refine bodyPost_ret (results_tmp rfl _ _ _) rfl ?_
    exact HQ.out.1.fin HZ.out

end Go.Proofs.YtjdgdmlhipbaaaaGreatDoor
