/-
  law20's great: where it says no, the flat form is small. No condition.
-/
import Derived.Test.YtifjnpdnnfdcoaaReqD
import Derived.Deep.DeepCutAuto
import Derived.Deep.CutBlock
namespace Go.Proofs.Ytifjnpdnnfdcoaa
open Go.RowKit
set_option linter.unusedSimpArgs false
set_option linter.unusedVariables false
set_option maxRecDepth 100000

def smallT (x : Cm) : List (List UInt8) := [x.token, x.name, x.other, x.word, x.salt, x.gf, x.gt]
structure Small (x : Cm) : Prop where
  texts : ∀ t ∈ smallT x, t.length ≤ 10000
  li : x.ifs.length ≤ 300
  lt : x.thens.length ≤ 300
  le : x.elses.length ≤ 300
  i : ∀ c ∈ x.ifs, c.key.length ≤ 10000 ∧ c.val.length ≤ 10000
  t : ∀ d ∈ x.thens, d.key.length ≤ 10000 ∧ d.val.length ≤ 10000 ∧ d.fr.length ≤ 10000 ∧ d.to_.length ≤ 10000
  e : ∀ d ∈ x.elses, d.key.length ≤ 10000 ∧ d.val.length ≤ 10000 ∧ d.fr.length ≤ 10000 ∧ d.to_.length ≤ 10000
def GreatP (x : Cm) (w : World) (e : Ending) (w' : World) : Prop := ∃ g, e = .returned (.bool g) ∧ (g = false → Small x) ∧ Step [] [] w w'
theorem all_at {α : Type} {p : α → Prop} {l : List α} (h : ∀ (j : Nat) (a : α), j < l.length → l[j]? = some a → p a) : ∀ a ∈ l, p a := by
  intro a ha
  obtain ⟨j, hj⟩ := List.getElem?_of_mem ha
  exact h j a (List.getElem?_eq_some_iff.1 hj).1 hj
theorem all_next {α : Type} {p : α → Prop} {l : List α} {k : Nat} {b : α} (h : ∀ (j : Nat) (a : α), j < k → l[j]? = some a → p a) (hb : l[k]? = some b) (hp : p b) : ∀ (j : Nat) (a : α), j < k + 1 → l[j]? = some a → p a := by
  intro j a hj ha
  by_cases hk : j = k
  · subst hk
    rw [hb] at ha
    cases ha
    exact hp
  · exact h j a (by omega) ha
def daS (d : Da) : Prop := d.key.length ≤ 10000 ∧ d.val.length ≤ 10000 ∧ d.fr.length ≤ 10000 ∧ d.to_.length ≤ 10000
def cpS (d : Cp) : Prop := d.key.length ≤ 10000 ∧ d.val.length ≤ 10000
set_option maxHeartbeats 16000000 in
theorem great_any (x : Cm) (a1 a2 a3 : Option Addr) (c1 c2 c3 : Nat) (w : World) (h1 : RdC w x a1 a2 a3) : Calls Try.prog 11 #[cmV x (.slice a1 x.ifs.length c1) (.slice a2 x.thens.length c2) (.slice a3 x.elses.length c3)] w (GreatP x w) := by
  have H00 : Hid (Blk (w.alloc (.cells (cmc x (.slice a1 x.ifs.length c1) (.slice a2 x.thens.length c2) (.slice a3 x.elses.length c3)).toArray 29)) w.heap.size 29 (cmc x (.slice a1 x.ifs.length c1) (.slice a2 x.thens.length c2) (.slice a3 x.elses.length c3)).toArray ∧ RdC (w.alloc (.cells (cmc x (.slice a1 x.ifs.length c1) (.slice a2 x.thens.length c2) (.slice a3 x.elses.length c3)).toArray 29)) x a1 a2 a3 ∧ Step [] [] w (w.alloc (.cells (cmc x (.slice a1 x.ifs.length c1) (.slice a2 x.thens.length c2) (.slice a3 x.elses.length c3)).toArray 29))) := Lib.hid ⟨Blk.new w _ _, h1.step ((Step.refl [] w).alloc _), (Step.refl [] w).alloc _⟩
  clear h1
  go_enter Try.func11, Try.ntmps11
  go_upto_region 1 with fail
  change Code.wp _ _ _ _ (w.alloc (.cells (cmc x (.slice a1 x.ifs.length c1) (.slice a2 x.thens.length c2) (.slice a3 x.elses.length c3)).toArray 29))
  obtain ⟨b, hb⟩ : ∃ b, b = w.heap.size := ⟨_, rfl⟩
  obtain ⟨V, hV⟩ : ∃ V, V = (w.alloc (.cells (cmc x (.slice a1 x.ifs.length c1) (.slice a2 x.thens.length c2) (.slice a3 x.elses.length c3)).toArray 29)) := ⟨_, rfl⟩
  rw [← hV, ← hb] at H00
  have H0 := H00
  rw [← hV]
  try rw [← hb]
  clear hV hb H00
  have pc := H0.out.1.cell
  have p2 := pc 2
  have p4 := pc 4
  have p5 := pc 5
  have p6 := pc 6
  have p7 := pc 7
  have p10 := pc 10
  have p11 := pc 11
  clear pc
  simp only [cmc, List.getElem?_toArray, List.getElem?_cons_zero, List.getElem?_cons_succ] at p2 p4 p5 p6 p7 p10 p11
  have pl := H0.out.1.lt
  go_upto_block 0 with fail
  clear p2 p4 p5 p6 p7 p10 p11 pl
  change Code.wp _ _ _ _ (V.alloc (.cells #[Str x.token, Str x.name, Str x.other, Str x.word, Str x.salt, Str x.gf, Str x.gt] 9))
  obtain ⟨b2, hb2⟩ : ∃ b2, b2 = V.heap.size := ⟨_, rfl⟩
  obtain ⟨V1, hV1⟩ : ∃ V1, V1 = V.alloc (.cells #[Str x.token, Str x.name, Str x.other, Str x.word, Str x.salt, Str x.gf, Str x.gt] 9) := ⟨_, rfl⟩
  have H1 : Hid (Blk V1 b2 9 #[Str x.token, Str x.name, Str x.other, Str x.word, Str x.salt, Str x.gf, Str x.gt] ∧ Step [] [] V V1) := Lib.hid (by rw [hV1, hb2]; exact ⟨Blk.new _ _ _, (Step.refl [] V).alloc _⟩)
  rw [← hV1, ← hb2]
  clear hV1 hb2
  go_cut [] (fun wx => Hid (Step [] [] V wx ∧ ∀ t ∈ smallT x, t.length ≤ 10000))
  case first =>
    go_wp2_with fail
    go_loopw [31] (fun i W => ∃ k : Nat, i = .int .i64 k ∧ k ≤ 7 ∧ Hid (W = V1 ∧ ∀ (j : Nat) (t : List UInt8), j < k → (smallT x)[j]? = some t → t.length ≤ 10000)) (fun i _ => 7 - (intOf i).toNat)
    case atStart => exact ⟨0, rfl, by omega, Lib.hid ⟨rfl, by intro j t hj; omega⟩⟩
    case round =>
      rename World => W
      obtain ⟨k, rfl, hk, HW⟩ := hrel
      obtain ⟨e0, hno⟩ := HW.out
      subst e0
      have HNO := Lib.hid hno
      clear HW hno
      by_cases hlt : k < 7
      · have hlt' : (k : Int) < 7 := by omega
        obtain ⟨t, ht⟩ : ∃ t, (smallT x)[k]? = some t := ⟨_, List.getElem?_eq_getElem (show k < (smallT x).length by simp [smallT]; omega)⟩
        have hc : W.cell? ⟨b2, k, none⟩ = some (Str t) := by
          have hq := H1.out.1.cell k
          rw [hq]
          have hm : (smallT x).map Str = [Str x.token, Str x.name, Str x.other, Str x.word, Str x.salt, Str x.gf, Str x.gt] := rfl
          rw [List.getElem?_toArray, ← hm, List.getElem?_map, ht]
          rfl
        have hbl := H1.out.1.lt
        have HT := Lib.hid ht
        clear ht
        by_cases hg : (10000 : Int) < t.length
        · go_wp2_with fail
          exact bodyPost_ret (results_tmp rfl _ _ _) rfl ⟨true, rfl, by simp, (H0.out.2.2.trans H1.out.2)⟩
        · have HN := Lib.hid (all_next HNO.out HT.out (show t.length ≤ 10000 by omega))
          go_wp2_with fail
          go_roundw
          case rel => exact ⟨k + 1, by go_num, by omega, Lib.hid ⟨by first | rfl | trivial, HN.out⟩⟩
          case measure => simp [intOf]; omega
      · have hlt' : ¬ (k : Int) < 7 := by omega
        obtain rfl : k = 7 := by omega
        go_wp2_with fail
        go_meet
        exact Lib.hid ⟨H1.out.2, all_at HNO.out⟩
  case rest =>
    rename World => V2
    have H2 : Hid (Step [] [] V V2 ∧ ∀ t ∈ smallT x, t.length ≤ 10000) := hcut
    clear hcut H1
    have pc := (H0.out.1.step H2.out.1 (by simp)).cell
    have p15 := pc 15
    have p16 := pc 16
    have p17 := pc 17
    clear pc
    simp only [cmc, List.getElem?_toArray, List.getElem?_cons_zero, List.getElem?_cons_succ] at p15 p16 p17
    have pl := (H0.out.1.step H2.out.1 (by simp)).lt
    by_cases g1 : (300 : Int) < x.ifs.length
    · go_wp2_with fail
      exact bodyPost_ret (results_tmp rfl _ _ _) rfl ⟨true, rfl, by simp, (H0.out.2.2.trans H2.out.1)⟩
    have g1d : decide ((300 : Int) < x.ifs.length) = false := decide_eq_false g1
    by_cases g2 : (300 : Int) < x.thens.length
    · go_wp2_with fail
      exact bodyPost_ret (results_tmp rfl _ _ _) rfl ⟨true, rfl, by simp, (H0.out.2.2.trans H2.out.1)⟩
    have g2d : decide ((300 : Int) < x.thens.length) = false := decide_eq_false g2
    by_cases g3 : (300 : Int) < x.elses.length
    · go_wp2_with fail
      exact bodyPost_ret (results_tmp rfl _ _ _) rfl ⟨true, rfl, by simp, (H0.out.2.2.trans H2.out.1)⟩
    have g3d : decide ((300 : Int) < x.elses.length) = false := decide_eq_false g3
    have HG : Hid (x.ifs.length ≤ 300 ∧ x.thens.length ≤ 300 ∧ x.elses.length ≤ 300) := Lib.hid ⟨by omega, by omega, by omega⟩
    have hi3 : x.ifs.length ≤ 300 := by omega
    have ht3 : x.thens.length ≤ 300 := by omega
    have he3 : x.elses.length ≤ 300 := by omega
    clear g1 g2 g3
    go_upto_block 2 with fail
    clear g1d g2d g3d p15 p16 p17 pl
    go_cut [] (fun wx => Hid (Step [] [] V wx ∧ ∀ c ∈ x.ifs, cpS c))
    case first =>
      go_wp2_with fail
      go_loopw [58] (fun i W => ∃ k : Nat, i = .int .i64 k ∧ k ≤ x.ifs.length ∧ Hid (Step [] [] V W ∧ ∀ (j : Nat) (t : Cp), j < k → x.ifs[j]? = some t → cpS t)) (fun i _ => x.ifs.length - (intOf i).toNat)
      case atStart => exact ⟨0, rfl, by omega, Lib.hid ⟨H2.out.1, by intro j t hj; omega⟩⟩
      case round =>
        rename World => W
        obtain ⟨k, rfl, hk, HW⟩ := hrel
        by_cases hlt : k < x.ifs.length
        · have hlt' : (k : Int) < x.ifs.length := by omega
          obtain ⟨d, hd⟩ : ∃ d, x.ifs[k]? = some d := ⟨_, List.getElem?_eq_getElem hlt⟩
          have r1 := H0.out.2.1.i.step0 HW.out.1
          obtain ⟨g, off, hsa⟩ := r1.some_ (by omega)
          subst hsa
          have cd := rd_cp r1 hd
          have gl : g < W.heap.size := by have := World.block_lt_of_cell? _ _ cd.1; simpa using this
          have HX := Lib.hid hd
          clear hd r1
          by_cases u1 : (10000 : Int) < d.key.length
          · go_wp2_with fail
            exact bodyPost_ret (results_tmp rfl _ _ _) rfl ⟨true, rfl, by simp, ((H0.out.2.2.trans HW.out.1).alloc _)⟩
          have u1d : decide ((10000 : Int) < d.key.length) = false := decide_eq_false u1
          by_cases u2 : (10000 : Int) < d.val.length
          · go_wp2_with fail
            exact bodyPost_ret (results_tmp rfl _ _ _) rfl ⟨true, rfl, by simp, ((H0.out.2.2.trans HW.out.1).alloc _)⟩
          have u2d : decide ((10000 : Int) < d.val.length) = false := decide_eq_false u2
          have HN := Lib.hid (all_next HW.out.2 HX.out (show cpS d from ⟨by omega, by omega⟩))
          go_wp2_with fail
          go_roundw
          case rel => exact ⟨k + 1, by go_num, by omega, Lib.hid ⟨HW.out.1.alloc _, HN.out⟩⟩
          case measure => simp [intOf]; omega
        · have hlt' : ¬ (k : Int) < x.ifs.length := by omega
          obtain rfl : k = x.ifs.length := by omega
          go_wp2_with fail
          go_meet
          exact Lib.hid ⟨HW.out.1, all_at HW.out.2⟩
    case rest =>
      rename World => V3
      have H3 : Hid (Step [] [] V V3 ∧ ∀ c ∈ x.ifs, cpS c) := hcut
      clear hcut
      have pc := (H0.out.1.step H3.out.1 (by simp)).cell
      have p16 := pc 16
      have p17 := pc 17
      clear pc
      simp only [cmc, List.getElem?_toArray, List.getElem?_cons_zero, List.getElem?_cons_succ] at p16 p17
      have pl := (H0.out.1.step H3.out.1 (by simp)).lt
      go_upto_block 4 with fail
      clear p16 p17 pl
      change Code.wp _ _ _ _ (V3.alloc (.cells #[.slice a2 x.thens.length c2, .slice a3 x.elses.length c3] 27))
      obtain ⟨b3, hb3⟩ : ∃ b3, b3 = V3.heap.size := ⟨_, rfl⟩
      obtain ⟨V4, hV4⟩ : ∃ V4, V4 = V3.alloc (.cells #[.slice a2 x.thens.length c2, .slice a3 x.elses.length c3] 27) := ⟨_, rfl⟩
      have H4 : Hid (Blk V4 b3 27 #[.slice a2 x.thens.length c2, .slice a3 x.elses.length c3] ∧ Step [] [] V V4) := Lib.hid (by rw [hV4, hb3]; exact ⟨Blk.new _ _ _, H3.out.1.alloc _⟩)
      rw [← hV4, ← hb3]
      clear hV4 hb3
      go_wp2_with fail
      go_loopw [79] (fun i W => ∃ k : Nat, i = .int .i64 k ∧ k ≤ 2 ∧ Hid (Step [] [] V4 W ∧ ∀ (j : Nat) (l : List Da), j < k → [x.thens, x.elses][j]? = some l → ∀ d ∈ l, daS d)) (fun i _ => 2 - (intOf i).toNat)
      case atStart => exact ⟨0, rfl, by omega, Lib.hid ⟨Step.refl _ _, by intro j t hj; omega⟩⟩
      case round =>
        rename World => W
        obtain ⟨k, rfl, hk, HW⟩ := hrel
        by_cases hlt : k < 2
        · have hlt' : (k : Int) < 2 := by omega
          obtain ⟨l, al, cl, hc, hr, hls, hll⟩ : ∃ (l : List Da) (al : Option Addr) (cl : Nat), W.cell? ⟨b3, k, none⟩ = some (.slice al l.length cl) ∧ Rd W 7 al l.length (dacs l) ∧ [x.thens, x.elses][k]? = some l ∧ l.length ≤ 300 := by
            have hb := H4.out.1.step HW.out.1 (by simp)
            have hs := H0.out.2.1.step (H4.out.2.trans HW.out.1)
            have h0 := hb.cell 0
            have h1 := hb.cell 1
            simp only [List.getElem?_toArray, List.getElem?_cons_zero, List.getElem?_cons_succ] at h0 h1
            have hk2 : k = 0 ∨ k = 1 := by omega
            rcases hk2 with rfl | rfl
            · exact ⟨x.thens, a2, c2, h0, hs.t, rfl, ht3⟩
            · exact ⟨x.elses, a3, c3, h1, hs.e, rfl, he3⟩
          have hbl := (H4.out.1.step HW.out.1 (by simp)).lt
          have HR := Lib.hid hr
          have HLS := Lib.hid hls
          clear hr hls
          go_wp2_with fail
          clear hc
          go_loopw [85] (fun i U => ∃ n : Nat, i = .int .i64 n ∧ n ≤ l.length ∧ Hid (Step [] [] W U ∧ ∀ (j : Nat) (d : Da), j < n → l[j]? = some d → daS d)) (fun i _ => l.length - (intOf i).toNat)
          case atStart => exact ⟨0, rfl, by omega, Lib.hid ⟨Step.refl _ _, by intro j t hj; omega⟩⟩
          case round =>
            rename World => U
            obtain ⟨n, rfl, hn, HU⟩ := hrel
            by_cases hln : n < l.length
            · have hln' : (n : Int) < l.length := by omega
              obtain ⟨d, hd⟩ : ∃ d, l[n]? = some d := ⟨_, List.getElem?_eq_getElem hln⟩
              have r1 := HR.out.step0 HU.out.1
              obtain ⟨g, off, hsa⟩ := r1.some_ (by omega)
              subst hsa
              have cd := rd_da r1 hd
              have gl : g < U.heap.size := by have := World.block_lt_of_cell? _ _ cd.1; simpa using this
              have HX := Lib.hid hd
              clear hd r1
              by_cases u1 : (10000 : Int) < d.key.length
              · go_wp2_with fail
                exact bodyPost_ret (results_tmp rfl _ _ _) rfl ⟨true, rfl, by simp, ((((H0.out.2.2.trans H4.out.2).trans HW.out.1).trans HU.out.1).alloc _)⟩
              have u1d : decide ((10000 : Int) < d.key.length) = false := decide_eq_false u1
              by_cases u2 : (10000 : Int) < d.val.length
              · go_wp2_with fail
                exact bodyPost_ret (results_tmp rfl _ _ _) rfl ⟨true, rfl, by simp, ((((H0.out.2.2.trans H4.out.2).trans HW.out.1).trans HU.out.1).alloc _)⟩
              have u2d : decide ((10000 : Int) < d.val.length) = false := decide_eq_false u2
              by_cases u3 : (10000 : Int) < d.fr.length
              · go_wp2_with fail
                exact bodyPost_ret (results_tmp rfl _ _ _) rfl ⟨true, rfl, by simp, ((((H0.out.2.2.trans H4.out.2).trans HW.out.1).trans HU.out.1).alloc _)⟩
              have u3d : decide ((10000 : Int) < d.fr.length) = false := decide_eq_false u3
              by_cases u4 : (10000 : Int) < d.to_.length
              · go_wp2_with fail
                exact bodyPost_ret (results_tmp rfl _ _ _) rfl ⟨true, rfl, by simp, ((((H0.out.2.2.trans H4.out.2).trans HW.out.1).trans HU.out.1).alloc _)⟩
              have u4d : decide ((10000 : Int) < d.to_.length) = false := decide_eq_false u4
              have HN := Lib.hid (all_next HU.out.2 HX.out (show daS d from ⟨by omega, by omega, by omega, by omega⟩))
              go_wp2_with fail
              go_roundw
              case rel => exact ⟨n + 1, by go_num, by omega, Lib.hid ⟨HU.out.1.alloc _, HN.out⟩⟩
              case measure => simp [intOf]; omega
            · have hln' : ¬ (n : Int) < l.length := by omega
              obtain rfl : n = l.length := by omega
              have HN := Lib.hid (all_next HW.out.2 HLS.out (all_at HU.out.2))
              go_wp2_with fail
              go_roundw
              case rel => exact ⟨k + 1, by go_num, by omega, Lib.hid ⟨HW.out.1.trans HU.out.1, HN.out⟩⟩
              case measure => simp [intOf]; omega
        · have hlt' : ¬ (k : Int) < 2 := by omega
          obtain rfl : k = 2 := by omega
          go_wp2_with fail
          exact bodyPost_ret (results_tmp rfl _ _ _) rfl ⟨false, rfl, fun _ => ⟨H2.out.2, HG.out.1, HG.out.2.1, HG.out.2.2, H3.out.2, HW.out.2 0 x.thens (by omega) rfl, HW.out.2 1 x.elses (by omega) rfl⟩, (H0.out.2.2.trans H4.out.2).trans HW.out.1⟩
end Go.Proofs.Ytifjnpdnnfdcoaa
