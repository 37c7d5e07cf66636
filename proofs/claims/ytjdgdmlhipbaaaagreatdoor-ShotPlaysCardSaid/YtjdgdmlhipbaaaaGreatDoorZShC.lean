/-
 shot.Clean.
-/
import Derived.Test.YtjdgdmlhipbaaaaGreatDoorZShL
namespace Go.Proofs.YtjdgdmlhipbaaaaGreatDoor
open Go.RowKit Go.Maps
set_option linter.unusedSimpArgs false
set_option linter.unusedVariables false
set_option maxRecDepth 100000

def cleanL (x : Sn) (t : Bool) : List (List UInt8) → St → Int × St
 | [], s => (0, s)
 | f :: r, s => if namedB f = false ∨ (t = true ∧ f = fileB x.i.toNat) then cleanL x t r s else if (removeS s f).1 ≠ 0 then removeS s f else cleanL x t r (removeS s f).2
def cleanS (s : St) : Int × St := if s.off then (7, s) else cleanL (loadS s).1 (loadS s).2 (namesS s) s
theorem rdS_right {s : St} {f : List UInt8} (h : (rdS s f).2 = true) : RSn (rdS s f).1 ∧ f = fileB (rdS s f).1.i.toNat ∧ (readS s f).2 = 0 ∧ (readS s f).1 = textB (rdS s f).1 := by
 unfold rdS at h ⊢
 split at h
 ·rename_i x hx
  split at hx
  ·rename_i h0
   have := whole_some hx
   exact ⟨this.1, this.2.1, h0, this.2.2⟩
  ·cases hx
 ·cases h
theorem fold_right (s : St) : ∀ (l : List (List UInt8)) (a : Sn × Bool), (a.2 = true → RSn a.1) → ((l.foldl (loadStep s) a).2 = true → RSn (l.foldl (loadStep s) a).1) := by
 intro l
 induction l with
 | nil => intro a h; exact h
 | cons f r ih =>
  intro a h
  rw [List.foldl_cons]
  refine ih _ ?_
  unfold loadStep
  split
  ·rename_i hc
   exact fun _ => (rdS_right hc.2.1).1
  ·exact h
theorem loadS_right {s : St} (h : (loadS s).2 = true) : RSn (loadS s).1 := fold_right s (namesS s) (sn0, false) (by intro h; cases h) h
structure ClH (w0 w wr : World) (S S' : List Nat) (d sb : Nat) (s : St) (a : Option Addr) (l : List (List UInt8)) (x : Sn) : Prop where
 snap : Blk wr sb 33 (snc x).toArray
 dk : Dk wr S' d s
 nm : Rd wr 1 a l.length (l.map encStr)
 no : sb ∉ S'
 na : ∀ g, g ∈ blks a → g ∉ S'
 st : Step S S' w wr
 st0 : Step [] S' w0 wr
theorem ClH.quiet {w0 w wr w' : World} {S S' : List Nat} {d sb : Nat} {s : St} {a : Option Addr} {l : List (List UInt8)} {x : Sn} (h : ClH w0 w wr S S' d sb s a l x) {T : List Nat} (k : Step [] T wr w') : ClH w0 w w' S S' d sb s a l x :=
 ⟨h.snap.step k (by simp), h.dk.keep k, h.nm.step0 k, h.no, h.na, h.st.trans ((k.drop (S'' := []) (by simp)).keep _), h.st0.trans ((k.drop (S'' := []) (by simp)).keep _)⟩
theorem ClH.turn {w0 w wr w' : World} {S S' S'' : List Nat} {d sb : Nat} {s s2 : St} {a : Option Addr} {l : List (List UInt8)} {x : Sn} (h : ClH w0 w wr S S' d sb s a l x) (hl : 0 < l.length) (hD : Dk w' S'' d s2) (k : Step S' S'' wr w') : ClH w0 w w' S S'' d sb s2 a l x :=
 ⟨h.snap.step k h.no, hD, h.nm.step k h.na, k.notin h.snap.lt h.no, fun g hg => k.notin (by
  obtain ⟨g', off, rfl⟩ := h.nm.some_ hl
  simp [blks] at hg
  subst hg
  have hx : 0 < (l.map encStr).length := by rw [h.nm.len]; omega
  obtain ⟨u, hu⟩ : ∃ u, (l.map encStr)[0]? = some u := ⟨_, List.getElem?_eq_getElem hx⟩
  have := World.block_lt_of_cell? _ _ (h.nm.cell g off none rfl 0 u hu)
  simpa using this) (h.na g hg), h.st.trans k, h.st0.trans k⟩
set_option maxHeartbeats 4000000 in
theorem clean_any (w : World) (S : List Nat) (d : Nat) (s : St) (h : Dk w S d s) (k : Nat) (hO : Ok6 s k) (w0 : World) (hT : PTab w0) (hs : Step [] S w0 w) :
  Calls Tryz.prog 10 #[.pointer (some ⟨d, 0, none⟩)] w (DkP (cleanS s) S d w) := by
 have HX := Lib.hid (And.intro h (And.intro hO (And.intro hT hs)))
 have hload := load_any w S d s h k hO (hT.step hs)
 clear h hO hT hs
 go_enter Tryz.func10, Tryz.ntmps10
 have HLD := Lib.hid hload
 clear hload
 go_wp2_with fail
 refine HLD.out.mono ?_
 rintro e w1 ⟨rfl, k1⟩
 have HK1 := Lib.hid k1
 clear k1 HLD
 cases ho : s.off with
 | true =>
  have HN : Hid (cleanS s = (7, s)) := Lib.hid (by rw [cleanS, ho]; rfl)
  rw [show loadR s = (sn0, false, 7) by rw [loadR, ho]; rfl]
  clear ho
  go_wp2_with fail
  have k2 := (HK1.out.alloc (.cells (snc sn0).toArray 33)).keep S
  exact bodyPost_ret (results_tmp rfl _ _ _) rfl ⟨by rw [HN.out]; rfl, S, by rw [HN.out]; exact HX.out.1.keep (HK1.out.alloc _), k2⟩
 | false =>
  have HN : Hid (cleanS s = cleanL (loadS s).1 (loadS s).2 (namesS s) s) := Lib.hid (by rw [cleanS, ho]; rfl)
  rw [show loadR s = ((loadS s).1, (loadS s).2, 0) by rw [loadR, ho]; rfl]
  clear ho
  have HR := Lib.hid (@loadS_right s)
  obtain ⟨x, hx⟩ : ∃ x, x = (loadS s).1 := ⟨_, rfl⟩
  obtain ⟨t, ht⟩ : ∃ t, t = (loadS s).2 := ⟨_, rfl⟩
  rw [← hx, ← ht] at HN HR
  rw [← hx, ← ht]
  clear hx ht
  go_upto_region 2 with fail
  obtain ⟨sb, hsb⟩ : ∃ sb, sb = w1.heap.size := ⟨_, rfl⟩
  obtain ⟨V, hV⟩ : ∃ V, V = w1.alloc (.cells (snc x).toArray 33) := ⟨_, rfl⟩
  have H0 : Hid (ClH w0 w V S S d sb s none [] x) := by
   have k2 := (HK1.out.alloc (.cells (snc x).toArray 33))
   have h1 := HK1.out.size
   subst hV hsb
   exact ⟨Blk.new w1 _ _, HX.out.1.keep k2, Row.rd (Row.none _ _), fun hm => by have := HX.out.1.lt _ hm; omega, by simp [blks], k2.keep S, HX.out.2.2.2.trans (k2.keep S)⟩
  change Code.wp _ _ _ _ (w1.alloc (.cells (snc x).toArray 33))
  rw [← hV, ← hsb]
  clear hV hsb HK1
  go_wp2_with fail
  refine (names_any V S d s H0.out.dk HX.out.2.1.b).mono ?_
  rintro e w2 ⟨a, cap, rfl, hrow, hst⟩
  have H2 : Hid (ClH w0 w w2 S S d sb s a (namesS s) x) := Lib.hid ⟨H0.out.snap.step hst (by simp), H0.out.dk.keep hst, hrow.rd, H0.out.no, fun g hg hm => by
   rcases hst.fresh g hg with h1 | h1
   ·cases h1
   ·have := H0.out.dk.lt _ hm; omega, H0.out.st.trans ((hst.drop (S'' := []) (by simp)).keep _), H0.out.st0.trans ((hst.drop (S'' := []) (by simp)).keep _)⟩
  clear hrow hst H0
  have HO := Lib.hid HX.out.2.1
  have HTP := Lib.hid HX.out.2.2.1
  obtain ⟨l, hl⟩ : ∃ l, l = namesS s := ⟨_, rfl⟩
  have hln := names_count HX.out.2.1
  rw [← hl] at H2 hln HN
  rw [← hl]
  have HL : Hid (∀ f ∈ l, f.length ≤ 1099511627776) := Lib.hid (by rw [hl]; exact names_short HX.out.2.1)
  clear hl HX
  go_wp2_with fail
  go_loopw [21] (fun i wr => ∃ (j : Nat) (S' : List Nat) (s' : St), j ≤ l.length ∧ i = .int .i64 j ∧ Hid (ClH w0 w wr S S' d sb s' a l x ∧ Ok6 s' k ∧ cleanL x t (l.drop j) s' = cleanL x t l s))
   (fun i _ => l.length - (intOf i).toNat)
  case atStart => exact ⟨0, S, s, by omega, rfl, H2.out, HO.out, rfl⟩
  case round =>
   obtain ⟨j, S', s', hj, rfl, HW⟩ := hrel
   by_cases hlt : j < l.length
   ·have hlt' : (j : Int) < l.length := by omega
    obtain ⟨f, hf⟩ : ∃ f, l[j]? = some f := ⟨_, List.getElem?_eq_getElem hlt⟩
    obtain ⟨g, off, hsa⟩ := HW.out.1.nm.some_ (by omega)
    subst hsa
    have cn : wr.cell? ⟨g, off + j, none⟩ = some (Str f) := HW.out.1.nm.cell g off none rfl j _ (by simp [hf])
    have HF : Hid (f.length ≤ 1099511627776 ∧ cleanL x t l s = cleanL x t (f :: l.drop (j + 1)) s') := Lib.hid ⟨HL.out f (List.mem_of_getElem? hf), by
     rw [← HW.out.2.2, List.drop_eq_getElem_cons hlt]
     congr 2
     exact Option.some.inj ((List.getElem?_eq_getElem hlt).symm.trans hf)⟩
    have HO' := Lib.hid HW.out.2.1
    clear hf
    go_wp2_with fail
    refine (named_any f wr).mono ?_
    rintro e w3 ⟨rfl, k3⟩
    have H3 := Lib.hid (HW.out.1.quiet k3)
    clear k3 HW cn
    cases hnm : namedB f with
    | false =>
     have HQ : Hid (cleanL x t l s = cleanL x t (l.drop (j + 1)) s') := Lib.hid (by rw [HF.out.2, cleanL, if_pos (.inl hnm)])
     clear hnm
     go_wp2_with fail
     go_roundw
     case rel => exact ⟨j + 1, S', s', by omega, by go_num, H3.out, HO'.out, HQ.out.symm⟩
     case measure => simp [intOf]; omega
    | true =>
     have HNM := Lib.hid hnm
     clear hnm
     cases t with
     | false =>
      have HQ : Hid (cleanL x false l s = if (removeS s' f).1 ≠ 0 then removeS s' f else cleanL x false (l.drop (j + 1)) (removeS s' f).2) := Lib.hid (by rw [HF.out.2, cleanL, if_neg (by rw [HNM.out]; simp)])
      go_wp2_with fail
      refine (remove_any f _ S' d s' H3.out.dk HO'.out.b HF.out.1).mono ?_
      rintro e w5 ⟨rfl, S5, hD5, k5⟩
      have H5 := Lib.hid (H3.out.turn (by omega) hD5 k5)
      have HO5 := Lib.hid (ok_remove HO'.out f)
      clear hD5 k5 H3
      obtain ⟨c1, hc1⟩ : ∃ c1, c1 = (removeS s' f).1 := ⟨_, rfl⟩
      obtain ⟨s1, hs1⟩ : ∃ s1, s1 = (removeS s' f).2 := ⟨_, rfl⟩
      have HS1 : Hid (removeS s' f = (c1, s1)) := Lib.hid (by rw [hc1, hs1])
      rw [← hs1] at H5 HO5
      rw [← hc1]
      clear hc1 hs1
      by_cases z1 : c1 = 0
      ·have e1 : (c1 != 0) = false := by simpa using z1
       have e1' : (c1 == 0) = true := by simpa using z1
       have HQ2 := Lib.hid (by have := HQ.out; rw [HS1.out, if_neg (by simpa using z1)] at this; exact this)
       clear z1
       go_wp2_with fail
       go_roundw
       case rel => exact ⟨j + 1, S5, s1, by omega, by go_num, H5.out, HO5.out, HQ2.out.symm⟩
       case measure => simp [intOf]; omega
      ·have e1 : (c1 != 0) = true := by simpa using z1
       have e1' : (c1 == 0) = false := by simpa using z1
       have HQ2 := Lib.hid (by have := HQ.out; rw [HS1.out, if_pos (by simpa using z1)] at this; exact this)
       clear z1
       go_wp2_with fail
       exact bodyPost_ret (results_tmp rfl _ _ _) rfl ⟨by rw [HN.out, HQ2.out]; rfl, S5, by rw [HN.out, HQ2.out]; exact H5.out.dk, H5.out.st⟩
     | true =>
      have cc := H3.out.snap.cell
      have cx0 := cc 0
      clear cc
      simp only [snc, List.getElem?_toArray, List.getElem?_cons_zero, List.getElem?_cons_succ] at cx0
      have HRX := Lib.hid (HR.out rfl)
      go_wp2_with fail
      refine (sfile_any x.i HRX.out.i.1 HRX.out.i.2 w3 (HTP.out.step H3.out.st0)).mono ?_
      rintro e w4 ⟨rfl, k4⟩
      have H4 := Lib.hid (H3.out.quiet k4)
      clear k4 H3 cx0
      obtain ⟨fb, hfb⟩ : ∃ fb, fb = fileB x.i.toNat := ⟨_, rfl⟩
      rw [← hfb]
      have HFB := Lib.hid hfb
      clear hfb
      by_cases hq : f = fb
      ·have HQ : Hid (cleanL x true l s = cleanL x true (l.drop (j + 1)) s') := Lib.hid (by rw [HF.out.2, cleanL, if_pos (.inr ⟨rfl, by rw [← HFB.out]; exact hq⟩)])
       have e1 : (f == fb) = true := by simpa using hq
       clear hq
       go_wp2_with fail
       go_roundw
       case rel => exact ⟨j + 1, S', s', by omega, by go_num, H4.out, HO'.out, HQ.out.symm⟩
       case measure => simp [intOf]; omega
      ·have HQ : Hid (cleanL x true l s = if (removeS s' f).1 ≠ 0 then removeS s' f else cleanL x true (l.drop (j + 1)) (removeS s' f).2) := Lib.hid (by rw [HF.out.2, cleanL, if_neg (by rw [HNM.out, ← HFB.out]; simp [hq])])
       have e1 : (f == fb) = false := by simpa using hq
       clear hq
       have H3 := H4
       clear H4
       go_wp2_with fail
       refine (remove_any f _ S' d s' H3.out.dk HO'.out.b HF.out.1).mono ?_
       rintro e w5 ⟨rfl, S5, hD5, k5⟩
       have H5 := Lib.hid (H3.out.turn (by omega) hD5 k5)
       have HO5 := Lib.hid (ok_remove HO'.out f)
       clear hD5 k5 H3
       obtain ⟨c1, hc1⟩ : ∃ c1, c1 = (removeS s' f).1 := ⟨_, rfl⟩
       obtain ⟨s1, hs1⟩ : ∃ s1, s1 = (removeS s' f).2 := ⟨_, rfl⟩
       have HS1 : Hid (removeS s' f = (c1, s1)) := Lib.hid (by rw [hc1, hs1])
       rw [← hs1] at H5 HO5
       rw [← hc1]
       clear hc1 hs1
       by_cases z1 : c1 = 0
       ·have e1 : (c1 != 0) = false := by simpa using z1
        have e1' : (c1 == 0) = true := by simpa using z1
        have HQ2 := Lib.hid (by have := HQ.out; rw [HS1.out, if_neg (by simpa using z1)] at this; exact this)
        clear z1
        go_wp2_with fail
        go_roundw
        case rel => exact ⟨j + 1, S5, s1, by omega, by go_num, H5.out, HO5.out, HQ2.out.symm⟩
        case measure => simp [intOf]; omega
       ·have e1 : (c1 != 0) = true := by simpa using z1
        have e1' : (c1 == 0) = false := by simpa using z1
        have HQ2 := Lib.hid (by have := HQ.out; rw [HS1.out, if_pos (by simpa using z1)] at this; exact this)
        clear z1
        go_wp2_with fail
        exact bodyPost_ret (results_tmp rfl _ _ _) rfl ⟨by rw [HN.out, HQ2.out]; rfl, S5, by rw [HN.out, HQ2.out]; exact H5.out.dk, H5.out.st⟩
   ·have hlt' : ¬ (j : Int) < l.length := by omega
    have HE : Hid (cleanL x t l s = (0, s')) := Lib.hid (by rw [← HW.out.2.2, List.drop_of_length_le (by omega)]; rfl)
    go_wp2_with fail
    exact bodyPost_ret (results_tmp rfl _ _ _) rfl ⟨by rw [HN.out, HE.out]; rfl, S', by rw [HN.out, HE.out]; exact HW.out.1.dk, HW.out.1.st⟩
end Go.Proofs.YtjdgdmlhipbaaaaGreatDoor
