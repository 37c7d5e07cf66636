/-
  Chapter 8's awake. Condition: the library's tables.
-/
import Derived.Test.YtjdgdmlhipbaaaaGreatDoorZGO
import Derived.Test.YtjdgdmlhipbaaaaGreatDoorZGE
namespace Go.Proofs.YtjdgdmlhipbaaaaGreatDoor
open Go.RowKit Go.Maps
set_option linter.unusedSimpArgs false
set_option linter.unusedVariables false
set_option maxRecDepth 100000

theorem snew_ok (room : Int) (w : World) (h : okRoom room = true) : Calls Tryz.prog 6 #[.int .i64 room] w fun e w' => ∃ S' d, e = .returned (.tuple #[.pointer (some ⟨d, 0, none⟩), .int .i64 0]) ∧ Dk w' S' d (newS room) ∧ Step [] S' w w' := by
  refine (new_any room w).mono ?_
  rintro e w' (⟨_, h2⟩ | ⟨h2, _⟩)
  · exact h2
  · rw [h] at h2; cases h2
def awx : Sn := ⟨3, 1, [120]⟩
theorem awx_right : RSn awx := ⟨by decide, by decide, by decide⟩
theorem awx_len : ((textB awx).length : Int) ≤ 1000 := by
  have h1 := numB_len awx.i.toNat (by decide)
  have h2 := numB_len awx.t.toNat (by decide)
  have h3 := numB_len awx.dt.length (by decide)
  have h4 : awx.dt.length = 1 := rfl
  simp only [textB, bodyB, List.length_append, be4_len]
  omega
theorem awx_file : fileB awx.i.toNat = [115, 48, 48, 48, 48, 48, 48, 48, 48, 48, 48, 48, 48, 51] := by decide
theorem awx_ok : Ok6 (oneS 1000 awx) 1 := by
  have h := ok_save (s := newS 1000) (ok_new (by decide)) (by simp [ERis, newS]) awx (by omega)
  rwa [save_new awx_right awx_len] at h
set_option maxHeartbeats 4000000 in
theorem awake08_true (w : World) (hT : PTab w) (hU : Tabs w) : Calls Tryz.prog 4 #[] w fun e w' => e = .returned (.bool true) ∧ Step [] [] w w' := by
  have HT := Lib.hid (And.intro hT hU)
  clear hT hU
  go_enter Tryz.func4, Tryz.ntmps4
  go_wp2_with fail
  refine (snew_ok 1000 w (by decide)).mono ?_
  rintro e w1 ⟨S1, d, rfl, hd1, st1⟩
  have H1 : Hid (Dk w1 S1 d (newS 1000) ∧ Step [] S1 w w1) := Lib.hid ⟨hd1, st1⟩
  clear hd1 st1
  go_upto_region 3 with fail
  obtain ⟨sb, hsb⟩ : ∃ sb, sb = w1.heap.size := ⟨_, rfl⟩
  obtain ⟨V, hV⟩ : ∃ V, V = w1.alloc (.cells (snc awx).toArray 33) := ⟨_, rfl⟩
  have H2 : Hid (Dk V S1 d (newS 1000) ∧ Step [] S1 w V ∧ Blk V sb 33 (snc awx).toArray ∧ sb ∉ S1) := by
    subst hV hsb
    exact ⟨H1.out.1.keep ((Step.refl [] w1).alloc _), H1.out.2.alloc _, Blk.new w1 _ _, fun hm => by have := H1.out.1.lt _ hm; omega⟩
  change Code.wp _ _ _ _ (w1.alloc (.cells (snc awx).toArray 33))
  rw [← hV, ← hsb]
  clear hV hsb H1
  have cc := H2.out.2.2.1.cell
  have c0 := cc 0
  have c1 := cc 1
  have c2 := cc 2
  clear cc
  simp only [snc, List.getElem?_toArray, List.getElem?_cons_zero, List.getElem?_cons_succ] at c0 c1 c2
  go_wp2_with fail
  have hc := save_any awx V S1 d (newS 1000) H2.out.1 0 (ok_new (by decide)) (by omega) w HT.out.1 HT.out.2 H2.out.2.1 (by decide)
  rw [save_new awx_right awx_len] at hc
  refine hc.mono ?_
  rintro e w2 ⟨rfl, S2, hd2, st2⟩
  have H3 : Hid (Dk w2 S2 d (oneS 1000 awx) ∧ Step [] S2 w w2 ∧ Blk w2 sb 33 (snc awx).toArray ∧ sb ∉ S2) := Lib.hid ⟨hd2, H2.out.2.1.trans st2, H2.out.2.2.1.step st2 H2.out.2.2.2, st2.notin H2.out.2.2.1.lt H2.out.2.2.2⟩
  clear hd2 st2 hc H2 c0 c1 c2
  go_wp2_with fail
  have hc := names_any w2 S2 d (oneS 1000 awx) H3.out.1 awx_ok.b
  rw [show namesS (oneS 1000 awx) = [[115, 48, 48, 48, 48, 48, 48, 48, 48, 48, 48, 48, 48, 51]] from congrArg (fun x => [x]) awx_file] at hc
  refine hc.mono ?_
  rintro e w3 ⟨a3, cap3, rfl, hrow3, st3⟩
  have H4 : Hid (Dk w3 S2 d (oneS 1000 awx) ∧ Step [] S2 w w3 ∧ Blk w3 sb 33 (snc awx).toArray ∧ sb ∉ S2) := Lib.hid ⟨H3.out.1.keep st3, (H3.out.2.1.trans ((st3.drop (S'' := []) (by simp)).keep _)), H3.out.2.2.1.step st3 (by simp), H3.out.2.2.2⟩
  clear hrow3 st3 hc H3
  go_wp2_with fail
  have hc := names_any w3 S2 d (oneS 1000 awx) H4.out.1 awx_ok.b
  rw [show namesS (oneS 1000 awx) = [[115, 48, 48, 48, 48, 48, 48, 48, 48, 48, 48, 48, 48, 51]] from congrArg (fun x => [x]) awx_file] at hc
  refine hc.mono ?_
  rintro e w4 ⟨a4, cap4, rfl, hrow4, st4⟩
  have H5 : Hid (Dk w4 S2 d (oneS 1000 awx) ∧ Step [] S2 w w4 ∧ Blk w4 sb 33 (snc awx).toArray ∧ sb ∉ S2) := Lib.hid ⟨H4.out.1.keep st4, (H4.out.2.1.trans ((st4.drop (S'' := []) (by simp)).keep _)), H4.out.2.2.1.step st4 (by simp), H4.out.2.2.2⟩
  obtain ⟨g, off, rfl⟩ := hrow4.some_of_pos (by decide)
  have cn : w4.cell? ⟨g, off, none⟩ = some (Str [115, 48, 48, 48, 48, 48, 48, 48, 48, 48, 48, 48, 48, 51]) := hrow4.rd.cell g off none rfl 0 _ rfl
  clear hrow4 st4 hc H4
  simp only [List.length_cons, List.length_nil, Nat.zero_add]
  go_wp2_with fail
  have hc := crash_any [] w4 S2 d (oneS 1000 awx) none 0 H5.out.1 awx_ok.b (Row.rd (Row.none _ _)) (by intro h; simp at h) ⟨by simp, awx_ok.nm⟩
  refine hc.mono ?_
  rintro e w5 ⟨rfl, hd5, st5⟩
  rw [one_crash] at hd5
  have H6 : Hid (Dk w5 S2 d (oneS 1000 awx) ∧ Step [] S2 w w5 ∧ Blk w5 sb 33 (snc awx).toArray) := Lib.hid ⟨hd5, H5.out.2.1.trans st5, H5.out.2.2.1.step st5 H5.out.2.2.2⟩
  clear hd5 st5 hc H5
  go_wp2_with fail
  have hc := load_any w5 S2 d (oneS 1000 awx) H6.out.1 1 awx_ok (HT.out.1.step H6.out.2.1)
  rw [one_load 1000 awx_right] at hc
  refine hc.mono ?_
  rintro e w6 ⟨rfl, st6⟩
  have H7 : Hid (Step [] [] w w6 ∧ Blk w6 sb 33 (snc awx).toArray) := Lib.hid ⟨(H6.out.2.1.trans (st6.keep S2)).drop (by simp), H6.out.2.2.step st6 (by simp)⟩
  clear st6 hc H6
  go_upto_region 7 with fail
  obtain ⟨tb, htb⟩ : ∃ tb, tb = w6.heap.size := ⟨_, rfl⟩
  obtain ⟨V, hV⟩ : ∃ V, V = w6.alloc (.cells (snc awx).toArray 33) := ⟨_, rfl⟩
  have H8 : Hid (Step [] [] w V ∧ Blk V sb 33 (snc awx).toArray ∧ Blk V tb 33 (snc awx).toArray) := by
    subst hV htb
    exact ⟨H7.out.1.alloc _, H7.out.2.alloc _, Blk.new w6 _ _⟩
  change Code.wp _ _ _ _ (w6.alloc (.cells (snc awx).toArray 33))
  rw [← hV, ← htb]
  clear hV htb H7
  have cc := H8.out.2.1.cell
  have c0 := cc 0
  have c1 := cc 1
  have c2 := cc 2
  clear cc
  have cc := H8.out.2.2.cell
  have e0 := cc 0
  have e1 := cc 1
  have e2 := cc 2
  clear cc
  simp only [snc, List.getElem?_toArray, List.getElem?_cons_zero, List.getElem?_cons_succ] at c0 c1 c2 e0 e1 e2
  go_wp2_with fail
  exact bodyPost_ret (results_tmp rfl _ _ _) rfl ⟨rfl, H8.out.1⟩
end Go.Proofs.YtjdgdmlhipbaaaaGreatDoor
