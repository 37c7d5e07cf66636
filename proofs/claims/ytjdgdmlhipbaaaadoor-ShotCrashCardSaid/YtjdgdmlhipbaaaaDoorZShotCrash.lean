/-
 ShotCrash: wherever the power goes while a newer snapshot is put and the elder one is cleaned away, there is one of the two behind it. The row lists the library's tables as Go lays them. No condition beyond the row's.
-/
import Derived.Test.YtjdgdmlhipbaaaaDoorZGE
import Derived.Test.YtjdgdmlhipbaaaaDoorZGJ
namespace Go.Proofs.YtjdgdmlhipbaaaaDoor
open Go.RowKit Go.Lib Go.ChangeShapes Go.WideShapes Go.ChangeAt
set_option linter.unusedSimpArgs false
set_option linter.unusedVariables false
set_option maxRecDepth 100000

structure CrW (w W : World) (S : List Nat) (d : Nat) (s : St) (ab bb cb : Nat) (x y : Sn) (lc : Array Value) : Prop where
 dk : Dk W S d s
 st : Step [] S w W
 pa : Blk W ab 29 (snc x).toArray
 pb : Blk W bb 29 (snc y).toArray
 pc : Blk W cb 46 lc
 na : ab ∉ S
 nb : bb ∉ S
 nc : cb ∉ S
section
variable {w W W1 : World} {S S' T : List Nat} {d ab bb cb : Nat} {s s' : St} {x y : Sn} {lc : Array Value}
theorem CrW.turn (h : CrW w W S d s ab bb cb x y lc) (hD : Dk W1 S' d s') (k : Step S S' W W1) : CrW w W1 S' d s' ab bb cb x y lc :=
 ⟨hD, h.st.trans k, h.pa.step k h.na, h.pb.step k h.nb, h.pc.step k h.nc, k.notin h.pa.lt h.na, k.notin h.pb.lt h.nb, k.notin h.pc.lt h.nc⟩
theorem CrW.quiet (h : CrW w W S d s ab bb cb x y lc) (k : Step [] T W W1) : CrW w W1 S d s ab bb cb x y lc :=
 ⟨h.dk.keep k, h.st.trans ((k.drop (S'' := []) (by simp)).keep _), h.pa.step k (by simp), h.pb.step k (by simp), h.pc.step k (by simp), h.na, h.nb, h.nc⟩
end
theorem sn_ne {x y : Sn} (h : x.i < y.i) : (x.i == y.i) = false := by simp; omega
set_option maxHeartbeats 4000000 in
theorem crash08_any (x y : Sn) (n : Nat) (keep : List Int) (ka : Option Addr) (kc : Nat) (w : World) (hT : PTab w) (hU : Tabs w) (hx : x.dt.length ≤ 140737488351232) (hy : y.dt.length ≤ 140737488351232) (hn : n < 256) (hkl : keep.length ≤ maxLen) (hkr : Rd w 1 ka keep.length (keep.map (Value.int .i64))) : Calls Tryd.prog 6 #[snV x, snV y, .agg #[.int .u8 (n : Int), .slice ka keep.length kc]] w fun e w' => e = .returned (.bool true) ∧ Step [] [] w w' := by
 have HT := Lib.hid (And.intro hT hU)
 have HKP := Lib.hid (And.intro hkl hkr)
 clear hT hU hkl hkr
 go_enter Tryd.func6, Tryd.ntmps6
 go_upto_region 1 with fail
 obtain ⟨ab, hab⟩ : ∃ ab, ab = w.heap.size := ⟨_, rfl⟩
 obtain ⟨V, hV⟩ : ∃ V, V = ((w.alloc (.cells (snc x).toArray 29)).alloc (.cells (snc y).toArray 29)).alloc (.cells #[.int .u8 (n : Int), .slice ka keep.length kc] 46) := ⟨_, rfl⟩
 have H0 : Hid (Blk V ab 29 (snc x).toArray ∧ Blk V (ab + 1) 29 (snc y).toArray ∧ Blk V (ab + 1 + 1) 46 #[.int .u8 (n : Int), .slice ka keep.length kc] ∧ Step [] [] w V) := by
  subst hV hab
  have h1 : (w.alloc (.cells (snc x).toArray 29)).heap.size = w.heap.size + 1 := by simp
  have h2 : ((w.alloc (.cells (snc x).toArray 29)).alloc (.cells (snc y).toArray 29)).heap.size = w.heap.size + 1 + 1 := by simp
  have b2 := Blk.new (w.alloc (.cells (snc x).toArray 29)) 29 (snc y).toArray
  have b3 := Blk.new ((w.alloc (.cells (snc x).toArray 29)).alloc (.cells (snc y).toArray 29)) 46 #[.int .u8 (n : Int), .slice ka keep.length kc]
  rw [h1] at b2
  rw [h2] at b3
  exact ⟨((Blk.new w _ _).alloc _).alloc _, b2.alloc _, b3, (((Step.refl [] w).alloc _).alloc _).alloc _⟩
 change Code.wp _ _ _ _ (((w.alloc (.cells (snc x).toArray 29)).alloc (.cells (snc y).toArray 29)).alloc (.cells #[.int .u8 (n : Int), .slice ka keep.length kc] 46))
 rw [← hV]
 try rw [← hab]
 clear hV
 obtain ⟨bb, hbb⟩ : ∃ bb, bb = ab + 1 := ⟨_, rfl⟩
 rw [← hbb] at H0 ⊢
 obtain ⟨cb, hcb⟩ : ∃ cb, cb = bb + 1 := ⟨_, rfl⟩
 rw [← hcb] at H0 ⊢
 clear hab hbb hcb
 go_wp2_with fail
 refine (awake08_true V (HT.out.1.step H0.out.2.2.2) (HT.out.2.step H0.out.2.2.2)).mono ?_
 rintro e W ⟨rfl, k1⟩
 have H1 : Hid (Blk W ab 29 (snc x).toArray ∧ Blk W bb 29 (snc y).toArray ∧ Blk W cb 46 #[.int .u8 (n : Int), .slice ka keep.length kc] ∧ Step [] [] w W) := Lib.hid ⟨H0.out.1.step k1 (by simp), H0.out.2.1.step k1 (by simp), H0.out.2.2.1.step k1 (by simp), H0.out.2.2.2.trans k1⟩
 clear k1 H0
 have fc := H1.out.1.cell
 have f0 := fc 0
 have f1 := fc 1
 have f2 := fc 2
 clear fc
 simp only [snc, List.getElem?_toArray, List.getElem?_cons_zero, List.getElem?_cons_succ] at f0 f1 f2
 go_wp2_with fail
 refine (ref08Right_any x W hx).mono ?_
 rintro e w2 ⟨rfl, k1⟩
 have H2 : Hid (Blk w2 ab 29 (snc x).toArray ∧ Blk w2 bb 29 (snc y).toArray ∧ Blk w2 cb 46 #[.int .u8 (n : Int), .slice ka keep.length kc] ∧ Step [] [] w w2) := Lib.hid ⟨H1.out.1.step k1 (by simp), H1.out.2.1.step k1 (by simp), H1.out.2.2.1.step k1 (by simp), H1.out.2.2.2.trans k1⟩
 clear k1 H1 f0 f1 f2
 by_cases hr : rightSn x = true
 case neg =>
  have hr' : rightSn x = false := by simpa using hr
  rw [hr']
  go_wp2_with fail
  exact bodyPost_ret (results_tmp rfl _ _ _) rfl ⟨rfl, H2.out.2.2.2⟩
 have HRX : Hid (RSn x) := Lib.hid (rightSn_iff.1 hr)
 rw [hr]
 clear hr
 have fc := H2.out.2.1.cell
 have g0 := fc 0
 have g1 := fc 1
 have g2 := fc 2
 clear fc
 simp only [snc, List.getElem?_toArray, List.getElem?_cons_zero, List.getElem?_cons_succ] at g0 g1 g2
 go_wp2_with fail
 refine (ref08Right_any y w2 hy).mono ?_
 rintro e w3 ⟨rfl, k1⟩
 have H3 : Hid (Blk w3 ab 29 (snc x).toArray ∧ Blk w3 bb 29 (snc y).toArray ∧ Blk w3 cb 46 #[.int .u8 (n : Int), .slice ka keep.length kc] ∧ Step [] [] w w3) := Lib.hid ⟨H2.out.1.step k1 (by simp), H2.out.2.1.step k1 (by simp), H2.out.2.2.1.step k1 (by simp), H2.out.2.2.2.trans k1⟩
 clear k1 H2 g0 g1 g2
 by_cases hr : rightSn y = true
 case neg =>
  have hr' : rightSn y = false := by simpa using hr
  rw [hr']
  go_wp2_with fail
  exact bodyPost_ret (results_tmp rfl _ _ _) rfl ⟨rfl, H3.out.2.2.2⟩
 have HRY : Hid (RSn y) := Lib.hid (rightSn_iff.1 hr)
 rw [hr]
 clear hr
 have fc := H3.out.1.cell
 have f0 := fc 0
 have f1 := fc 1
 have f2 := fc 2
 clear fc
 simp only [snc, List.getElem?_toArray, List.getElem?_cons_zero, List.getElem?_cons_succ] at f0 f1 f2
 have fc := H3.out.2.1.cell
 have g0 := fc 0
 have g1 := fc 1
 have g2 := fc 2
 clear fc
 simp only [snc, List.getElem?_toArray, List.getElem?_cons_zero, List.getElem?_cons_succ] at g0 g1 g2
 by_cases hlt : y.i ≤ x.i
 ·have hld : decide (y.i ≤ x.i) = true := decide_eq_true hlt
  clear hlt
  go_wp2_with fail
  exact bodyPost_ret (results_tmp rfl _ _ _) rfl ⟨rfl, H3.out.2.2.2⟩
 have hld : decide (y.i ≤ x.i) = false := decide_eq_false hlt
 have HLT : Hid (x.i < y.i) := Lib.hid (by omega)
 clear hlt
 go_wp2_with fail
 clear hld f0 f1 f2 g0 g1 g2
 refine (snew_ok 8388608 w3 (by decide)).mono ?_
 rintro e w4 ⟨S4, d, rfl, hd, k⟩
 have H4 : Hid (CrW w w4 S4 d (newS 8388608) ab bb cb x y #[.int .u8 (n : Int), .slice ka keep.length kc]) := Lib.hid ⟨hd, H3.out.2.2.2.trans k, H3.out.1.step k (by simp), H3.out.2.1.step k (by simp), H3.out.2.2.1.step k (by simp), k.notin H3.out.1.lt (by simp), k.notin H3.out.2.1.lt (by simp), k.notin H3.out.2.2.1.lt (by simp)⟩
 clear hd k H3
 have fc := H4.out.pa.cell
 have f0 := fc 0
 have f1 := fc 1
 have f2 := fc 2
 clear fc
 simp only [snc, List.getElem?_toArray, List.getElem?_cons_zero, List.getElem?_cons_succ] at f0 f1 f2
 have fc := H4.out.pb.cell
 have g0 := fc 0
 have g1 := fc 1
 have g2 := fc 2
 clear fc
 simp only [snc, List.getElem?_toArray, List.getElem?_cons_zero, List.getElem?_cons_succ] at g0 g1 g2
 have fc := H4.out.pc.cell
 have k0 := fc 0
 have k1 := fc 1
 clear fc
 simp only [List.getElem?_toArray, List.getElem?_cons_zero, List.getElem?_cons_succ] at k0 k1
 go_wp2_with fail
 have hc := save_any x w4 S4 d (newS 8388608) H4.out.dk 0 (ok_new (by decide)) (by omega) w HT.out.1 HT.out.2 H4.out.st hx
 rw [save_new HRX.out (by have := (text_len HRX.out).1; omega)] at hc
 refine hc.mono ?_
 rintro e w5 ⟨rfl, S5, hd, k⟩
 have H5 := Lib.hid (H4.out.turn hd k)
 have HO : Hid (Ok6 (oneS 8388608 x) 1) := Lib.hid (by
  have h := ok_save (s := newS 8388608) (ok_new (by decide)) (by simp [ERis, newS]) x (by omega)
  rwa [save_new HRX.out (by have := (text_len HRX.out).1; omega)] at h)
 clear hc hd k H4 f0 f1 f2 g0 g1 g2 k0 k1
 have fc := H5.out.pa.cell
 have f0 := fc 0
 have f1 := fc 1
 have f2 := fc 2
 clear fc
 simp only [snc, List.getElem?_toArray, List.getElem?_cons_zero, List.getElem?_cons_succ] at f0 f1 f2
 have fc := H5.out.pb.cell
 have g0 := fc 0
 have g1 := fc 1
 have g2 := fc 2
 clear fc
 simp only [snc, List.getElem?_toArray, List.getElem?_cons_zero, List.getElem?_cons_succ] at g0 g1 g2
 have fc := H5.out.pc.cell
 have k0 := fc 0
 have k1 := fc 1
 clear fc
 simp only [List.getElem?_toArray, List.getElem?_cons_zero, List.getElem?_cons_succ] at k0 k1
 obtain ⟨m, hm⟩ : ∃ m, m = n % 6 := ⟨_, rfl⟩
 have hm6 : (n : Int).tmod 6 = (m : Int) := by rw [hm]; exact (Int.ofNat_tmod n 6).symm
 have hml : m < 6 := by omega
 clear hm
 go_wp2_with fail
 refine (fuse_any (m : Int) w5 S5 d _ H5.out.dk).mono ?_
 rintro e w6 ⟨rfl, hd, k⟩
 have H6 := Lib.hid (H5.out.turn hd k)
 have HO6 : Hid (Ok6 (fuseS (oneS 8388608 x) m) 1) := Lib.hid (ok_fuse HO.out m (by omega))
 have HASK := Lib.hid (crash_asked HRX.out HRY.out HLT.out m keep)
 clear hd k H5 hm6 f0 f1 f2 g0 g1 g2 k0 k1
 unfold CrAsk at HASK
 simp only at HASK
 obtain ⟨s0, hs0⟩ : ∃ s0, s0 = fuseS (oneS 8388608 x) m := ⟨_, rfl⟩
 have HR0 : Hid (ERis s0.E) := Lib.hid (by rw [hs0]; simp [fuseS, oneS, ERis])
 rw [← hs0] at H6 HO6 HASK
 clear hs0
 have fc := H6.out.pa.cell
 have f0 := fc 0
 have f1 := fc 1
 have f2 := fc 2
 clear fc
 simp only [snc, List.getElem?_toArray, List.getElem?_cons_zero, List.getElem?_cons_succ] at f0 f1 f2
 have fc := H6.out.pb.cell
 have g0 := fc 0
 have g1 := fc 1
 have g2 := fc 2
 clear fc
 simp only [snc, List.getElem?_toArray, List.getElem?_cons_zero, List.getElem?_cons_succ] at g0 g1 g2
 have fc := H6.out.pc.cell
 have k0 := fc 0
 have k1 := fc 1
 clear fc
 simp only [List.getElem?_toArray, List.getElem?_cons_zero, List.getElem?_cons_succ] at k0 k1
 go_wp2_with fail
 refine (save_any y w6 S5 d s0 H6.out.dk 1 HO6.out (by omega) w HT.out.1 HT.out.2 H6.out.st hy).mono ?_
 rintro e w7 ⟨rfl, S7, hd, k⟩
 have H7 := Lib.hid (H6.out.turn hd k)
 have HO7 : Hid (Ok6 (saveS s0 y).2 2) := Lib.hid (ok_save HO6.out HR0.out y (by omega))
 clear hd k H6 f0 f1 f2 g0 g1 g2 k0 k1
 obtain ⟨s1, hs1⟩ : ∃ s1, s1 = (saveS s0 y).2 := ⟨_, rfl⟩
 obtain ⟨c1, hc1⟩ : ∃ c1, c1 = (saveS s0 y).1 := ⟨_, rfl⟩
 rw [← hs1] at H7 HO7 HASK
 rw [← hc1] at HASK
 rw [← hc1]
 clear hs1 hc1
 go_wp2_with fail
 refine (clean_any w7 S7 d s1 H7.out.dk 2 HO7.out w HT.out.1 H7.out.st).mono ?_
 rintro e w8 ⟨rfl, S8, hd, k⟩
 have H8 := Lib.hid (H7.out.turn hd k)
 have HO8 : Hid (Ok6 (cleanS s1).2 2) := Lib.hid (ok_clean HO7.out)
 clear hd k H7
 obtain ⟨s2, hs2⟩ : ∃ s2, s2 = (cleanS s1).2 := ⟨_, rfl⟩
 obtain ⟨c2, hc2⟩ : ∃ c2, c2 = (cleanS s1).1 := ⟨_, rfl⟩
 rw [← hs2] at H8 HO8 HASK
 rw [← hc2] at HASK
 rw [← hc2]
 clear hs2 hc2
 have fc := H8.out.pa.cell
 have f0 := fc 0
 have f1 := fc 1
 have f2 := fc 2
 clear fc
 simp only [snc, List.getElem?_toArray, List.getElem?_cons_zero, List.getElem?_cons_succ] at f0 f1 f2
 have fc := H8.out.pb.cell
 have g0 := fc 0
 have g1 := fc 1
 have g2 := fc 2
 clear fc
 simp only [snc, List.getElem?_toArray, List.getElem?_cons_zero, List.getElem?_cons_succ] at g0 g1 g2
 have fc := H8.out.pc.cell
 have k0 := fc 0
 have k1 := fc 1
 clear fc
 simp only [List.getElem?_toArray, List.getElem?_cons_zero, List.getElem?_cons_succ] at k0 k1
 go_wp2_with fail
 refine (crash_any keep w8 S8 d s2 ka kc H8.out.dk HO8.out.b (HKP.out.2.step0 H8.out.st) (fun hk g hg hm => by
  have h1 := rd_low HKP.out.2 hk g hg
  rcases H8.out.st.fresh g hm with h2 | h2
  ·simp at h2
  ·omega) ⟨HKP.out.1, HO8.out.nm⟩).mono ?_
 rintro e w9 ⟨rfl, hd, k⟩
 have H9 := Lib.hid (H8.out.turn hd k)
 have HO9 : Hid (Ok6 (crashS s2 keep) 2) := Lib.hid (ok_crash HO8.out keep)
 clear hd k H8 f0 f1 f2 g0 g1 g2 k0 k1
 obtain ⟨s3, hs3⟩ : ∃ s3, s3 = crashS s2 keep := ⟨_, rfl⟩
 rw [← hs3] at H9 HO9 HASK
 clear hs3
 go_wp2_with fail
 obtain ⟨z, hz, hl⟩ : ∃ z, (z = y ∨ z = x ∧ c1 ≠ 0) ∧ loadR s3 = (z, true, 0) := by
  rcases HASK.out.1 with h | ⟨h, h2⟩
  ·exact ⟨y, .inl rfl, h⟩
  ·exact ⟨x, .inr ⟨rfl, h2⟩, h⟩
 have HZ := Lib.hid hz
 have hc := load_any w9 S8 d s3 H9.out.dk 2 HO9.out (HT.out.1.step H9.out.st)
 rw [hl] at hc
 refine hc.mono ?_
 rintro e w10 ⟨rfl, k⟩
 have H10 := Lib.hid (H9.out.quiet k)
 clear hc k H9 hl hz
 go_upto_region 13 with fail
 obtain ⟨zb, hzb⟩ : ∃ zb, zb = w10.heap.size := ⟨_, rfl⟩
 obtain ⟨V, hV⟩ : ∃ V, V = w10.alloc (.cells (snc z).toArray 29) := ⟨_, rfl⟩
 have H11 : Hid (CrW w V S8 d s3 ab bb cb x y #[.int .u8 (n : Int), .slice ka keep.length kc] ∧ Blk V zb 29 (snc z).toArray) := by
  subst hV hzb
  exact ⟨H10.out.quiet ((Step.refl [] w10).alloc _), Blk.new w10 _ _⟩
 change Code.wp _ _ _ _ (w10.alloc (.cells (snc z).toArray 29))
 rw [← hV]
 try rw [← hzb]
 clear hV hzb H10
 go_cut [79] (fun c wx => Hid (c = .bool false ∧ ∃ S, CrW w wx S d s3 ab bb cb x y #[.int .u8 (n : Int), .slice ka keep.length kc] ∧ Blk wx zb 29 (snc z).toArray))
 case first =>
  by_cases h2 : c2 = 0
  ·have h2d : (c2 == 0) = true := by simpa using h2
   by_cases h1 : c1 = 0
   ·have h1d : (c1 == 0) = true := by simpa using h1
    have HN : Hid ((namesS s3).length = 1) := Lib.hid (HASK.out.2 h1 h2)
    clear h1 h2
    go_wp2_with fail
    refine (names_any V S8 d s3 H11.out.1.dk HO9.out.b).mono ?_
    rintro e V2 ⟨a3, cap3, rfl, hrow3, k⟩
    have H12 : Hid (CrW w V2 S8 d s3 ab bb cb x y #[.int .u8 (n : Int), .slice ka keep.length kc] ∧ Blk V2 zb 29 (snc z).toArray) := Lib.hid ⟨H11.out.1.quiet k, H11.out.2.step k (by simp)⟩
    clear k hrow3
    rw [HN.out]
    go_wp2_with fail
    go_meet
    exact ⟨rfl, S8, H12.out⟩
   ·have h1d : (c1 == 0) = false := by simpa using h1
    clear h1 h2
    go_wp2_with fail
    go_meet
    exact ⟨rfl, S8, H11.out⟩
  ·have h2d : (c2 == 0) = false := by simpa using h2
   clear h2
   go_wp2_with fail
   go_meet
   exact ⟨rfl, S8, H11.out⟩
 case rest =>
  rename World => W0
  have HC := hcut
  clear hcut
  obtain ⟨rfl, -⟩ := HC.out
  obtain ⟨S9, h9⟩ := HC.out.2
  have H12 := Lib.hid h9
  clear h9
  have fc := H12.out.1.pa.cell
  have f0 := fc 0
  have f1 := fc 1
  have f2 := fc 2
  clear fc
  simp only [snc, List.getElem?_toArray, List.getElem?_cons_zero, List.getElem?_cons_succ] at f0 f1 f2
  have fc := H12.out.1.pb.cell
  have g0 := fc 0
  have g1 := fc 1
  have g2 := fc 2
  clear fc
  simp only [snc, List.getElem?_toArray, List.getElem?_cons_zero, List.getElem?_cons_succ] at g0 g1 g2
  rcases HZ.out with hz | ⟨hz, hne⟩
  ·subst hz
   have fc := H12.out.2.cell
   have z0 := fc 0
   have z1 := fc 1
   have z2 := fc 2
   clear fc
   simp only [snc, List.getElem?_toArray, List.getElem?_cons_zero, List.getElem?_cons_succ] at z0 z1 z2
   go_wp2_with fail
   exact bodyPost_ret (results_tmp rfl _ _ _) rfl ⟨rfl, H12.out.1.st.drop (by simp)⟩
  ·subst hz
   have hq := sn_ne HLT.out
   have hnd : (c1 != 0) = true := by simpa using hne
   clear hne
   have fc := H12.out.2.cell
   have z0 := fc 0
   have z1 := fc 1
   have z2 := fc 2
   clear fc
   simp only [snc, List.getElem?_toArray, List.getElem?_cons_zero, List.getElem?_cons_succ] at z0 z1 z2
   go_wp2_with fail
   exact bodyPost_ret (results_tmp rfl _ _ _) rfl ⟨rfl, H12.out.1.st.drop (by simp)⟩
theorem ShotCrash_walk (v0 v1 v2 : Value) (w : World) {b0 : Nat} (h0 : Value.okWide Tryd.prog w .any b0 29 v0) (o0 : Op Tryd.prog w 29 v0.cells.toList) (h1 : Value.okWide Tryd.prog w .any b0 29 v1) (o1 : Op Tryd.prog w 29 v1.cells.toList) (h2 : Value.okWide Tryd.prog w .any b0 46 v2) (o2 : Op Tryd.prog w 46 v2.cells.toList) (hT : LTabs w) :
  Calls Tryd.prog 6 #[v0, v1, v2] w fun e w' => e = .returned (.bool true) ∧ Below w.heap.size w w' := by
 obtain ⟨x, rfl, hB⟩ := arg_sn h0 o0
 obtain ⟨y, rfl, hC⟩ := arg_sn h1 o1
 obtain ⟨vs, rfl, _⟩ := okWide_aggD Tryd.underlying46 h2
 obtain ⟨hl, _⟩ := o2.struct Tryd.underlying46
 rw [show Tryd.prog.cellsOf 46 = 2 by kernel_rfl] at hl
 have hvl : (Value.agg vs).cells.toList = vs.toList := by simp [Value.cells]
 rw [hvl] at hl o2
 obtain ⟨c0, c1, hcs⟩ : ∃ a0 a1, vs.toList = [a0, a1] := by
  match vs.toList, hl with
  | [a0, a1], _ => exact ⟨a0, a1, rfl⟩
 rw [hcs] at o2
 have g0 := o2.field Tryd.underlying46 0 5 rfl (by kernel_rfl) rfl
 have g1 := o2.field Tryd.underlying46 1 44 rfl (by kernel_rfl) rfl
 obtain ⟨n, e0, hw⟩ := g0.int Tryd.underlying5
 obtain ⟨keep, ka, kc, e1, hk1, hk2, hk3⟩ := op_ints g1
 simp only [List.cons.injEq, and_true] at e0 e1
 subst e0 e1
 simp [Lit.wf, IntKind.min, IntKind.max, IntKind.signed, IntKind.bits] at hw
 obtain ⟨n, rfl⟩ : ∃ m : Nat, n = m := ⟨n.toNat, by omega⟩
 obtain rfl : vs = #[.int .u8 (n : Int), .slice ka keep.length kc] := by cases vs; simpa using hcs
 exact (crash08_any x y n keep ka kc w hT.pow hT.u8 hB.dt hC.dt (by omega) (Nat.le_trans hk1 hk2) hk3).mono fun e w' ⟨h1, h2⟩ => ⟨h1, h2.below0⟩

set_option maxRecDepth 100000 in
theorem ShotCrash_lifted (os : Os) (started : os.Started) (H : Type) (enc : TypeId × Value → H) :
  ReturnsInHanded {} Tryd.checked os 6 .any (fun w args => (Rows.shotCrashSpec.pre enc Tryd.prog Tryd.f6 [] false w args ∧ laidMetH Tryd.prog scrLaid w) ∧ sizedMet enc Tryd.prog Tryd.f6 (OpenSpec.ofChange Rows.shotCrashSpec) false w args)
   (Rows.shotCrashSpec.post enc Tryd.prog Tryd.f6 false true false false) := by
 refine returnsInHanded_of_change_tabs (C := Tryd.checked) (X := fun w _ => laidMetH Tryd.prog scrLaid w) (fun _ _ _ hh h => h.of_heap hh) (by kernel_rfl) started (by kernel_rfl) Tryd.func6
  (ChangeSpec.witness_shaped (enc := enc) (C := Tryd.checked) (os := os) (X := fun w _ => laidMetH Tryd.prog scrLaid w) false (World.laidAll Tryd.prog os scrLaid) #[.agg #[.int .i64 0, .int .i64 0, .string ⟨#[]⟩], .agg #[.int .i64 0, .int .i64 0, .string ⟨#[]⟩], .agg #[.int .u8 0, .slice none 0 0]] 8 (World.laidAll_os _ _ _)
   (World.shaped_of_ZipB (by kernel_rfl) (by kernel_rfl)) (by kernel_rfl) (by kernel_rfl) (by kernel_rfl)
   (by rw [MakeChecks.laidMetH_plain _ _ _ (by kernel_rfl)]; exact laidMet_laidAll _ (by kernel_rfl) (by kernel_rfl))) ?_
 intro W base args ds gs before hval0 hW _ hsz0 hL hS _
 have hval : ∀ (j : Nat) t v, Tryd.f6.params[j]? = some t → args[j]? = some v → Value.okWide Tryd.prog W .any base t v := hval0
 have hsz : (DataW.weightsEach Tryd.prog (Tryd.f6.params.toList ++ Rows.shotCrashSpec.plain.varTypes Tryd.prog) (ds ++ gs)).all (· ≤ reachBytes) = true := hsz0
 have hW' := hW
 have hT := stabs_of hL hS
 obtain ⟨p, q, hA0, hV, rfl, _, _⟩ := hW
 have hA : DataW.TrodAll enc Tryd.prog W 0 (fun _ => true) true Tryd.f6.params.toList args.toList ds p := hA0
 rw [Tryd.params6] at hA hval hsz
 obtain ⟨v0, vs0, d0, ds0, p0, q0, hargs, rfl, rfl, h0, r0⟩ := trodAll_cons hA
 obtain ⟨v1, vs1, d1, ds1, p1, q1, rfl, rfl, rfl, h1, r1⟩ := trodAll_cons r0
 obtain ⟨v2, vs2, d2, ds2, p2, q2, rfl, rfl, rfl, h2, r2⟩ := trodAll_cons r1
 obtain ⟨rfl, rfl, rfl⟩ := trodAll_nil r2
 obtain rfl : args = #[v0, v1, v2] := by cases args; simp_all
 obtain ⟨rfl, rfl⟩ := trodVars_none hV
 have lt0 : ∀ x ∈ p0, x.block < W.heap.size := by obtain ⟨m, hm⟩ := h0; exact DataW.trod_lt m _ _ _ hm
 have o0 := op_of hsz (j := 0) rfl rfl h0
 have lt1 : ∀ x ∈ p1, x.block < W.heap.size := by obtain ⟨m, hm⟩ := h1; exact DataW.trod_lt m _ _ _ hm
 have o1 := op_of hsz (j := 1) rfl rfl h1
 have lt2 : ∀ x ∈ p2, x.block < W.heap.size := by obtain ⟨m, hm⟩ := h2; exact DataW.trod_lt m _ _ _ hm
 have o2 := op_of hsz (j := 2) rfl rfl h2
 refine (ShotCrash_walk v0 v1 v2 W (hval 0 _ v0 rfl rfl) o0 (hval 1 _ v1 rfl rfl) o1 (hval 2 _ v2 rfl rfl) o2 hT).mono fun e W' ⟨he, bel⟩ => ?_
 subst he
 exact ⟨_, rfl, _, _, _, [], _, [], hW', trodAll_mk1 (shut_bool Tryd.underlying4 _), (trodAll_cons_mk (Below.trod (by kernel_rfl) (by kernel_rfl) (of_decide_eq_true (by kernel_rfl)) h0 bel lt0) (trodAll_cons_mk (Below.trod (by kernel_rfl) (by kernel_rfl) (of_decide_eq_true (by kernel_rfl)) h1 bel lt1) (trodAll_cons_mk (Below.trod (by kernel_rfl) (by kernel_rfl) (of_decide_eq_true (by kernel_rfl)) h2 bel lt2) trodAll_mk0))), rfl, bel.frame _, fun h => by cases h⟩

/-- The row's statement. -/
theorem ShotCrash_row : Rows.ShotCrashSaid :=
 OpenClaim.holds_of_wide 6 Tryd.f6 rfl rfl rfl rfl rfl rfl rfl ⟨rfl, rfl, rfl, rfl, rfl⟩ rfl rfl rfl rfl rfl (by kernel_rfl) Tryd.func6 (by kernel_rfl)
  (of_decide_eq_true (by kernel_rfl)) (by unfold Func.isWrapper; rw [if_neg (of_decide_eq_false (by kernel_rfl))]; exact ⟨rfl, rfl⟩)
  (fun os started H enc _ => ShotCrash_lifted os started H enc)
/-- The card. -/
theorem ShotCrash_holds : Rows.ShotCrashCardSaid :=
 Claim7.holds_tied_plain_at .later [] [.data, .data, .data, .data, .pinned] true Rows.shotCrashCard.stood.harness false
  ShotCrash_row (fun _ h => by cases h) (by kernel_rfl) (fun _ h => by cases h) shotCrash_row_tie rfl ⟨rfl, rfl⟩ (by kernel_rfl) rfl
  (fun f fn hf hfn => by
   obtain rfl : f = 6 := Option.some.inj ((show Tryd.prog.funcNamed "exchequer/exchequerlaw08.ShotCrash" = some 6 by kernel_rfl).symm.trans hf) |>.symm
   obtain rfl : fn = Tryd.f6 := (Option.some.inj (Tryd.func6.symm.trans hfn)).symm
   exact ⟨by kernel_rfl, fun j t ht => by
    rw [Tryd.params6] at ht
    have hm : t ∈ [29, 29, 46] := by simpa using Array.mem_of_getElem? ht
    have hall : ([29, 29, 46].all fun u => !Tryd.prog.wantsStandIn u) = true := by kernel_rfl
    exact (show Tryd.prog.wantsStandIn t = false by simpa using List.all_eq_true.1 hall t hm)⟩)
  (by kernel_rfl)
#print axioms ShotCrash_holds
end Go.Proofs.YtjdgdmlhipbaaaaDoor
