/-
  Chapter 8's functions on a nil disk. Condition of Save: the library's table.
-/
import Derived.Test.YtjdgdmlhipbaaaaDoorZShC
namespace Go.Proofs.YtjdgdmlhipbaaaaDoor
open Go.RowKit Go.Maps
set_option linter.unusedSimpArgs false
set_option linter.unusedVariables false
set_option maxRecDepth 100000

set_option maxHeartbeats 4000000 in
theorem sread_nil (f : List UInt8) (w : World) : Calls Tryd.prog 21 #[.pointer none, Str f] w fun e w' => e = .returned (.tuple #[snV sn0, .bool false]) ∧ Step [] [] w w' := by
  go_enter Tryd.func21, Tryd.ntmps21
  go_upto_region 1 with fail
  obtain ⟨rb, hrb⟩ : ∃ rb, rb = w.heap.size := ⟨_, rfl⟩
  obtain ⟨V, hV⟩ : ∃ V, V = w.alloc (.cells (snc sn0).toArray 29) := ⟨_, rfl⟩
  have HV : Hid (Blk V rb 29 (snc sn0).toArray ∧ Step [] [rb] w V) := by
    subst hV hrb
    exact ⟨Blk.new w _ _, (Step.refl [] w).hold _⟩
  change Code.wp _ _ _ _ (w.alloc (.cells (snc sn0).toArray 29))
  rw [← hV, ← hrb]
  clear hV hrb
  go_wp2_with fail
  refine (read_nil f V).mono ?_
  rintro e w1 ⟨rfl, rfl⟩
  go_wp2_with (refine wpList_storeRow (T := 29) (b := rb) (T' := 29) (cs := (snc sn0).toArray) (vs := (snc sn0).toArray) rfl (.tmp 4) (.tmp 23) rfl rfl rfl Tryd.sSnap HV.out.1 rfl (snc_one sn0) ?_; intro U ub uk)
  exact bodyPost_ret (res_row2 rfl _ rfl Tryd.sSnap ub) rfl ⟨rfl, (HV.out.2.trans uk).drop (by simp)⟩
set_option maxHeartbeats 4000000 in
theorem save_nil (x : Sn) (w : World) (hT : PTab w) (hx : x.dt.length ≤ 140737488351232) :
    Calls Tryd.prog 9 #[.pointer none, snV x] w fun e w' => e = .returned (.int .i64 (if rightSn x = true then 7 else 1)) ∧ Step [] [] w w' := by
  have HT := Lib.hid hT
  clear hT
  obtain ⟨c, hc⟩ : ∃ c : Int, c = if rightSn x = true then 7 else 1 := ⟨_, rfl⟩
  rw [← hc]
  have HC := Lib.hid hc
  clear hc
  go_enter Tryd.func9, Tryd.ntmps9
  go_upto_region 1 with fail
  change Code.wp _ _ _ _ (w.alloc (.cells (snc x).toArray 29))
  obtain ⟨b, hb⟩ : ∃ b, b = w.heap.size := ⟨_, rfl⟩
  obtain ⟨V, hV⟩ : ∃ V, V = (w.alloc (.cells (snc x).toArray 29)) := ⟨_, rfl⟩
  have H0 : Hid (Blk V b 29 (snc x).toArray ∧ Step [] [] w V) := by
    subst hV hb
    exact ⟨Blk.new w _ _, (Step.refl [] w).alloc _⟩
  rw [← hV, ← hb]
  clear hV hb
  have fc := H0.out.1.cell
  have f0 := fc 0
  have f1 := fc 1
  have f2 := fc 2
  clear fc
  simp only [snc, List.getElem?_toArray, List.getElem?_cons_zero, List.getElem?_cons_succ] at f0 f1 f2
  go_wp2_with fail
  refine (sright_any x V hx).mono ?_
  rintro e w1 ⟨rfl, k1⟩
  have H1 : Hid (Blk w1 b 29 (snc x).toArray ∧ Step [] [] w w1) := Lib.hid ⟨H0.out.1.step k1 (by simp), H0.out.2.trans k1⟩
  clear H0 k1 f0 f1 f2
  by_cases hr : rightSn x = true
  · have HR := Lib.hid (And.intro hr (rightSn_iff.1 hr))
    rw [hr]
    clear hr
    have fc := H1.out.1.cell
    have f0 := fc 0
    have f1 := fc 1
    have f2 := fc 2
    clear fc
    simp only [snc, List.getElem?_toArray, List.getElem?_cons_zero, List.getElem?_cons_succ] at f0 f1 f2
    go_wp2_with fail
    refine (sfile_any x.i HR.out.2.i.1 HR.out.2.i.2 w1 (HT.out.step H1.out.2)).mono ?_
    rintro e w2 ⟨rfl, k2⟩
    have H2 : Hid (Step [] [] w w2) := Lib.hid (H1.out.2.trans k2)
    clear H1 k2 f0 f1 f2
    generalize fileB x.i.toNat = f
    go_wp2_with fail
    refine (sread_nil f w2).mono ?_
    rintro e w3 ⟨rfl, k3⟩
    have H3 : Hid (Step [] [] w w3) := Lib.hid (H2.out.trans k3)
    clear H2 k3
    go_wp2_with fail
    refine (remove_nil f _).mono ?_
    rintro e w4 ⟨rfl, rfl⟩
    go_wp2_with fail
    exact bodyPost_ret (results_tmp rfl _ _ _) rfl ⟨by rw [HC.out, if_pos HR.out.1]; rfl, H3.out.alloc _⟩
  · have hr' : rightSn x = false := by simpa using hr
    have HR := Lib.hid hr
    rw [hr']
    clear hr hr'
    go_wp2_with fail
    exact bodyPost_ret (results_tmp rfl _ _ _) rfl ⟨by rw [HC.out, if_neg HR.out]; rfl, H1.out.2⟩
set_option maxHeartbeats 4000000 in
theorem load_nil (w : World) : Calls Tryd.prog 11 #[.pointer none] w fun e w' => e = .returned (.tuple #[snV sn0, .bool false, .int .i64 7]) ∧ Step [] [] w w' := by
  go_enter Tryd.func11, Tryd.ntmps11
  go_upto_region 2 with fail
  obtain ⟨rb, hrb⟩ : ∃ rb, rb = w.heap.size := ⟨_, rfl⟩
  obtain ⟨ob, hob⟩ : ∃ ob, ob = rb + 1 := ⟨_, rfl⟩
  obtain ⟨V, hV⟩ : ∃ V, V = (w.alloc (.cells (snc sn0).toArray 29)).alloc (.cells (snc sn0).toArray 29) := ⟨_, rfl⟩
  have H0 : Hid (Blk V rb 29 (snc sn0).toArray ∧ Blk V ob 29 (snc sn0).toArray ∧ Step [] [ob, rb] w V) := by
    have h1 : (w.alloc (.cells (snc sn0).toArray 29)).heap.size = w.heap.size + 1 := by simp
    have b1 := (Blk.new (w.alloc (.cells (snc sn0).toArray 29)) 29 (snc sn0).toArray)
    have k1 := ((Step.refl [] w).hold (.cells (snc sn0).toArray 29)).hold (.cells (snc sn0).toArray 29)
    rw [h1] at b1 k1
    subst hV hob hrb
    exact ⟨(Blk.new w _ _).alloc _, b1, k1⟩
  change Code.wp _ _ _ _ ((w.alloc (.cells (snc sn0).toArray 29)).alloc (.cells (snc sn0).toArray 29))
  rw [← hV]
  rw [← hrb, ← hob]
  clear hV hrb hob
  go_wp2_with fail
  refine (down_nil V).mono ?_
  rintro e w1 ⟨rfl, rfl⟩
  have cc := H0.out.2.1.cell
  have cx0 := cc 0
  have cx1 := cc 1
  have cx2 := cc 2
  clear cc
  simp only [snc, List.getElem?_toArray, List.getElem?_cons_zero, List.getElem?_cons_succ] at cx0 cx1 cx2
  go_wp2_with (refine wpList_storeRow (T := 29) (b := rb) (T' := 29) (cs := (snc sn0).toArray) (vs := (snc sn0).toArray) rfl (.tmp 2) (.tmp 13) rfl rfl rfl Tryd.sSnap H0.out.1 rfl (snc_one sn0) ?_; intro U ub uk)
  exact bodyPost_ret (res_row3 rfl _ rfl Tryd.sSnap ub) rfl ⟨rfl, (H0.out.2.2.trans (uk.frame [ob])).drop (by simp)⟩
set_option maxHeartbeats 4000000 in
theorem clean_nil (w : World) : Calls Tryd.prog 12 #[.pointer none] w fun e w' => e = .returned (.int .i64 7) ∧ Step [] [] w w' := by
  go_enter Tryd.func12, Tryd.ntmps12
  go_wp2_with fail
  refine (load_nil w).mono ?_
  rintro e w1 ⟨rfl, k1⟩
  have H1 := Lib.hid k1
  clear k1
  go_wp2_with fail
  exact bodyPost_ret (results_tmp rfl _ _ _) rfl ⟨rfl, H1.out.alloc _⟩
end Go.Proofs.YtjdgdmlhipbaaaaDoor
