/-
  Chapter 6: the law's same, of two like disks; great. Conditions: as Pd and Ok6 say.
-/
import Derived.Test.YtfkjgkgflkhbnaaDoorDkDoes
namespace Go.Proofs.YtfkjgkgflkhbnaaDoor
open Go.RowKit Go.Maps
set_option linter.unusedSimpArgs false
set_option linter.unusedVariables false
set_option maxRecDepth 100000


theorem eget_at {E : List En} (hr : ERis E) {k : Nat} {x : En} (h : E[k]? = some x) : eget E x.n = some x := by
  have hk := (List.getElem?_eq_some_iff.1 h).1
  have hx := (List.getElem?_eq_some_iff.1 h).2
  have e : E = E.take k ++ x :: E.drop (k + 1) := by
    conv => lhs; rw [← List.take_append_drop k E]
    rw [List.drop_eq_getElem_cons hk, hx]
  unfold eget
  rw [e] at hr ⊢
  refine List.find?_eq_some_iff_append.2 ⟨by simp, _, _, rfl, fun g hg => ?_⟩
  obtain ⟨_, _, h3⟩ := List.pairwise_append.1 hr
  have := bb_ne (h3 g hg x (by simp))
  simpa using this
theorem down_q {w : World} {S : List Nat} {d : Nat} {s : St} (h : Dk w S d s) (n : Nat) : Calls Tryd.prog 16 #[.pointer (some ⟨d, 0, none⟩)] (w.drewN n) fun e w'' => e = .returned (.bool s.off) ∧ ∃ m, w'' = w.drewN m := by
  obtain ⟨m, L, h1, _⟩ := h.keep ((Step.refl [] w).drewN n)
  refine (down_any (w.drewN n) d m s.room s.fuse s.off h1.blk).mono ?_
  rintro e w' ⟨rfl, rfl⟩
  exact ⟨rfl, n, rfl⟩

set_option maxHeartbeats 4000000 in
theorem same06_any (w0 W : World) (S S2 : List Nat) (d rd : Nat) (s : St) (hP : Pd w0 W S S2 d rd s s) (hO : StB s) (hnm : ∀ f ∈ s.E, f.n.length ≤ 1099511627776) :
    Calls Tryd.prog 20 #[.pointer (some ⟨d, 0, none⟩), .pointer (some ⟨rd, 0, none⟩)] W fun e W' => e = .returned (.bool true) ∧ Step [] [] W W' := by
  have HP := Lib.hid hP
  have HR := Lib.hid hP.dk.ris
  have HO := Lib.hid hO
  have hNl : s.E.length ≤ 1099511627776 := hO.len
  clear hP hO
  go_enter Tryd.func20, Tryd.ntmps20
  go_wp2_with fail
  refine (names_any W S d s HP.out.dk HO.out).mono ?_
  rintro e w1 ⟨la, lc, rfl, hrow, hst⟩
  have H1 : Hid (Pd w0 w1 S S2 d rd s s ∧ Row w1 1 la (namesS s).length lc ((namesS s).map encStr) ∧ Step [] [] W w1) := Lib.hid ⟨HP.out.keep hst, hrow, hst.drop (by simp)⟩
  clear hrow hst
  obtain ⟨a, cap, hR⟩ := H1.out.1.rf
  have c0 := hR.blk.cell 0
  have c3 := hR.blk.cell 3
  simp only [List.getElem?_toArray, List.getElem?_cons_zero, List.getElem?_cons_succ] at c0 c3
  have rl := hR.blk.lt
  have HRM := Lib.hid hR
  clear hR
  have hdn := fun n => down_q H1.out.1.dk n
  go_upto_region 2 with fail
  refine wp_region_quiet_lit (by kernel_rfl) (by kernel_rfl) ?_
  repeat go_big_quiet_step (with_reducible exact hdn _)
  refine wpQuiet_nil ?_
  intro w2 hw2
  obtain ⟨n2, hW2⟩ := hw2
  have H2 : Hid (Pd w0 w2 S S2 d rd s s ∧ Row w2 1 la (namesS s).length lc ((namesS s).map encStr) ∧ Step [] [] W w2 ∧ Rfm w2 S2 rd a cap s) := Lib.hid (by rw [hW2]; exact ⟨H1.out.1.keep ((Step.refl [] w1).drewN n2), H1.out.2.1.step ((Step.refl [] w1).drewN n2) (by simp), H1.out.2.2.drewN n2, HRM.out.step ((Step.refl [] w1).drewN n2) (by simp)⟩)
  clear hW2 c0 c3 rl hdn
  have c0 := H2.out.2.2.2.blk.cell 0
  have c3 := H2.out.2.2.2.blk.cell 3
  simp only [List.getElem?_toArray, List.getElem?_cons_zero, List.getElem?_cons_succ] at c0 c3
  have rl := H2.out.2.2.2.blk.lt
  cases ho : s.off with
  | true =>
    have HOF := Lib.hid ho
    rw [ho] at c3
    clear ho
    have hnl : (namesS s).length = 0 := by simp [namesS, HOF.out]
    go_wp2_with fail
    refine (used_any w2 S d s H2.out.1.dk HO.out).mono ?_
    rintro e w3 ⟨rfl, st3⟩
    have hus : usedS s = 0 := by simp [usedS, HOF.out]
    have H3 := Lib.hid (H2.out.2.2.1.trans st3)
    clear st3
    go_wp2_with fail
    exact bodyPost_ret (results_tmp rfl _ _ _) rfl ⟨rfl, H3.out⟩
  | false =>
    have HOF := Lib.hid ho
    rw [ho] at c3
    clear ho
    have hnn : namesS s = s.E.map En.n := by simp [namesS, HOF.out]
    rw [hnn, List.length_map] at H2 ⊢
    have hus : usedS s = usedE s.E := by simp [usedS, HOF.out]
    have HUS := Lib.hid hus
    obtain ⟨N, hN⟩ : ∃ N, N = s.E.length := ⟨_, rfl⟩
    rw [← hN] at H2 c0 hNl ⊢
    have HN := Lib.hid hN
    clear hN hnn hus
    go_wp2_with fail
    refine (used_any w2 S d s H2.out.1.dk HO.out).mono ?_
    rintro e w3 ⟨rfl, st3⟩
    rw [HUS.out]
    have H3 : Hid (Pd w0 w3 S S2 d rd s s ∧ Row w3 1 la N lc ((s.E.map En.n).map encStr) ∧ Step [] [] W w3 ∧ Rfm w3 S2 rd a cap s) := Lib.hid ⟨H2.out.1.keep st3, H2.out.2.1.step st3 (by simp), H2.out.2.2.1.trans st3, H2.out.2.2.2.step st3 (by simp)⟩
    clear st3 c0 c3 rl
    obtain ⟨U, hU⟩ : ∃ U, U = usedE s.E := ⟨_, rfl⟩
    rw [← hU]
    have HU := Lib.hid hU
    clear hU
    go_wp2_with fail
    refine (rused_any w3 S2 rd s ⟨a, cap, H3.out.2.2.2⟩ HO.out).mono ?_
    rintro e w4 ⟨rfl, n4, hw4⟩
    rw [← HU.out]
    have H4 : Hid (Pd w0 w4 S S2 d rd s s ∧ Row w4 1 la N lc ((s.E.map En.n).map encStr) ∧ Step [] [] W w4 ∧ Rfm w4 S2 rd a cap s) := Lib.hid (by rw [hw4]; exact ⟨H3.out.1.keep ((Step.refl [] w3).drewN n4), H3.out.2.1.step ((Step.refl [] w3).drewN n4) (by simp), H3.out.2.2.1.drewN n4, H3.out.2.2.2.step ((Step.refl [] w3).drewN n4) (by simp)⟩)
    clear hw4
    go_wp2_with fail
    go_loopw [47] (fun i V => ∃ k : Nat, i = .int .i64 k ∧ k ≤ N ∧ Hid (Step [] [] w4 V)) (fun i _ => N - (intOf i).toNat)
    case atStart => exact ⟨0, rfl, by omega, Lib.hid (Step.refl _ _)⟩
    case round =>
      rename World => V
      obtain ⟨k, rfl, hkN, HV⟩ := hrel
      by_cases hlt : k < N
      · have hlt' : (k : Int) < N := by omega
        obtain ⟨x, hx⟩ : ∃ x, s.E[k]? = some x := ⟨_, List.getElem?_eq_getElem (by rw [← HN.out]; exact hlt)⟩
        have hrw := H4.out.2.1.step HV.out (by simp)
        obtain ⟨g, off, hs1⟩ := hrw.some_of_pos (by omega)
        have hrc := (hrw.cell hs1 k (by omega)).1
        rw [List.getElem?_map, List.getElem?_map, hx] at hrc
        simp only [Option.map_some] at hrc
        have hgl := hrw.lt g (by rw [hs1]; simp [blks])
        have hxn : x.n.length ≤ 1099511627776 := hnm x (List.mem_of_getElem? hx)
        have hrd : readS s x.n = (x.d ++ x.l, 0) := by simp [readS, HOF.out, eget_at HR.out hx]
        have HX := Lib.hid (And.intro hx (And.intro hxn hrd))
        have HS1 := Lib.hid hs1
        rw [hs1]
        clear hrw hs1 hx hxn hrd
        go_wp2_with fail
        have hcl := read_any x.n V S d s (H4.out.1.keep HV.out).dk HO.out HX.out.2.1
        rw [HX.out.2.2] at hcl
        refine hcl.mono ?_
        rintro e w5 ⟨rfl, st5⟩
        have H5 : Hid (Step [] [] w4 w5) := Lib.hid (HV.out.trans st5)
        clear st5 hcl hrc hgl
        have hrw := H4.out.2.1.step H5.out (by simp)
        have hrc := (hrw.cell HS1.out k (by omega)).1
        rw [List.getElem?_map, List.getElem?_map, HX.out.1] at hrc
        simp only [Option.map_some] at hrc
        have hgl := hrw.lt g (by rw [HS1.out]; simp [blks])
        have hrm := H4.out.2.2.2.step H5.out (by simp)
        have c0 := hrm.blk.cell 0
        simp only [List.getElem?_toArray, List.getElem?_cons_zero, List.getElem?_cons_succ] at c0
        rw [← HN.out] at c0
        obtain ⟨g2, off2, hs2⟩ := hrm.row.some_of_pos (by rw [← HN.out]; omega)
        have hr2 := hrm.row.rd
        rw [hs2] at hr2 c0
        obtain ⟨z0, z1, z2⟩ := rd_en (E := s.E) hr2 HX.out.1
        have gl2 : g2 < w5.heap.size := by have := World.block_lt_of_cell? _ _ z1; simpa using this
        have hful : x.d.length + x.l.length ≤ 9223372036854775807 := by
          have := used_mem (List.mem_of_getElem? HX.out.1)
          have := HO.out.used
          omega
        clear hrw hrm hr2 hs2
        go_wp2_with fail
        go_quiet (fail)
        go_wp2_with fail
        go_roundw
        case rel => exact ⟨k + 1, by go_num, by omega, Lib.hid (H5.out.drewN nq)⟩
        case measure => simp [intOf]; omega
      · have hnl : ¬ (k : Int) < N := by omega
        go_wp2_with fail
        exact bodyPost_ret (results_tmp rfl _ _ _) rfl ⟨rfl, H4.out.2.2.1.trans HV.out⟩

end Go.Proofs.YtfkjgkgflkhbnaaDoor
