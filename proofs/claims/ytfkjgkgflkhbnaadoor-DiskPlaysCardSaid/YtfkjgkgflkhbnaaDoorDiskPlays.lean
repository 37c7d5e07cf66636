/-
  DiskPlays: whatever is done with a disk is answered as the document says. The row lists utf8's two tables as Go lays them. No condition beyond the row's.
-/
import Derived.Test.YtfkjgkgflkhbnaaDoorDkSame
namespace Go.Proofs.YtfkjgkgflkhbnaaDoor
open Go.RowKit Go.Lib Go.ChangeShapes Go.WideShapes Go.ChangeAt
set_option linter.unusedSimpArgs false
set_option linter.unusedVariables false
set_option maxRecDepth 100000


theorem opc_len (o : OpE) : (opc o).length = 5 := rfl
theorem rd_op {w : World} {l : List OpE} {g off : Nat} {sp n} (h : Rd w 5 (some ⟨g, off, sp⟩) n (l.flatMap opc)) {k : Nat} {o : OpE} (hx : l[k]? = some o) :
    w.cell? ⟨g, off + k * 5, none⟩ = some (.int .i64 o.k) ∧ w.cell? ⟨g, off + k * 5 + 1, none⟩ = some (Str o.n) ∧ w.cell? ⟨g, off + k * 5 + 2, none⟩ = some (Str o.s) ∧ w.cell? ⟨g, off + k * 5 + 3, none⟩ = some (.int .i64 o.m) ∧ w.cell? ⟨g, off + k * 5 + 4, none⟩ = some (.slice o.ka o.ks.length o.kc) :=
  ⟨rd_fl opc 5 opc_len h hx 0 (by omega) _ rfl, rd_fl opc 5 opc_len h hx 1 (by omega) _ rfl, rd_fl opc 5 opc_len h hx 2 (by omega) _ rfl, rd_fl opc 5 opc_len h hx 3 (by omega) _ rfl, rd_fl opc 5 opc_len h hx 4 (by omega) _ rfl⟩
def GrP (w : World) (l : List OpE) (e : Ending) (w' : World) : Prop := ∃ g, e = .returned (.bool g) ∧ (g = false → l.length ≤ 200 ∧ ∀ o ∈ l, o.n.length ≤ 1000 ∧ o.s.length ≤ 5000) ∧ w = w'
def GrR (w : World) (l : List OpE) (k : Nat) (W : World) : Prop := w = W ∧ ∀ o ∈ l.take k, o.n.length ≤ 1000 ∧ o.s.length ≤ 5000
theorem GrR.next {w W : World} {l : List OpE} {k : Nat} {o : OpE} (h : GrR w l k W) (hx : l[k]? = some o) (h1 : o.n.length ≤ 1000) (h2 : o.s.length ≤ 5000) : GrR w l (k + 1) W := by
  have hk := (List.getElem?_eq_some_iff.1 hx).1
  have hg := (List.getElem?_eq_some_iff.1 hx).2
  refine ⟨h.1, fun x hm => ?_⟩
  rw [List.take_succ_eq_append_getElem hk, hg] at hm
  rcases List.mem_append.1 hm with hm | hm
  · exact h.2 x hm
  · simp at hm; subst hm; exact ⟨h1, h2⟩

set_option maxHeartbeats 2000000 in
theorem great06_any (l : List OpE) (a : Option Addr) (cap : Nat) (w : World) (hr : Rd w 5 a l.length (l.flatMap opc)) (hl : l.length ≤ 4611686018427387904) :
    Calls Tryd.prog 18 #[.slice a l.length cap] w (GrP w l) := by
  obtain ⟨N, hN⟩ : ∃ N, N = l.length := ⟨_, rfl⟩
  have HRD := Lib.hid hr
  rw [← hN] at hl ⊢
  have HN := Lib.hid hN
  clear hN hr
  go_enter Tryd.func18, Tryd.ntmps18
  go_wp2_with fail
  go_loopw [3, 7] (fun m i W => ∃ k n : Nat, i = .int .i64 k ∧ k ≤ N ∧ k ≤ 200 ∧ m = .int .i64 n ∧ n ≤ 20000 ∧ Hid (GrR w l k W)) (fun _ i _ => N - (intOf i).toNat)
  case atStart => exact ⟨0, 0, rfl, by omega, by omega, rfl, by omega, Lib.hid ⟨rfl, by simp⟩⟩
  case round =>
    rename World => W
    obtain ⟨k, n, rfl, hkN, hk2, rfl, hn2, HW⟩ := hrel
    have hWw := HW.out.1
    by_cases hlt : k < N
    · have hlt' : (k : Int) < N := by omega
      by_cases h200 : (200 : Int) ≤ k
      · have h2d : decide ((200 : Int) ≤ k) = true := decide_eq_true h200
        clear hWw
        go_wp2_with fail
        exact bodyPost_ret (results_tmp rfl _ _ _) rfl ⟨true, rfl, (by intro h; cases h), HW.out.1⟩
      · have h2d : decide ((200 : Int) ≤ k) = false := decide_eq_false h200
        obtain ⟨o, ho⟩ : ∃ o, l[k]? = some o := ⟨_, List.getElem?_eq_getElem (by rw [← HN.out]; exact hlt)⟩
        obtain ⟨g, off, hs1⟩ := HRD.out.some_ (by rw [← HN.out]; omega)
        have hr2 := HRD.out
        rw [hs1] at hr2
        obtain ⟨z0, z1, z2, z3, z4⟩ := rd_op hr2 ho
        rw [hWw] at z1 z2
        have gl : g < W.heap.size := by have := World.block_lt_of_cell? _ _ z1; simpa using this
        have HOO := Lib.hid ho
        rw [hs1]
        clear z0 z3 z4 hr2 hs1 ho hWw
        by_cases h5 : (5000 : Int) < o.s.length
        · have h5d : decide ((5000 : Int) < o.s.length) = true := decide_eq_true h5
          clear h5
          go_wp2_with fail
          exact bodyPost_ret (results_tmp rfl _ _ _) rfl ⟨true, rfl, (by intro h; cases h), HW.out.1⟩
        have h5d : decide ((5000 : Int) < o.s.length) = false := decide_eq_false h5
        have h5n : o.s.length ≤ 5000 := by omega
        by_cases h1 : (1000 : Int) < o.n.length
        · have h1d : decide ((1000 : Int) < o.n.length) = true := decide_eq_true h1
          clear h1 h5
          go_wp2_with fail
          exact bodyPost_ret (results_tmp rfl _ _ _) rfl ⟨true, rfl, (by intro h; cases h), HW.out.1⟩
        have h1d : decide ((1000 : Int) < o.n.length) = false := decide_eq_false h1
        have h1n : o.n.length ≤ 1000 := by omega
        have HNX := Lib.hid (HW.out.next HOO.out h1n h5n)
        by_cases h2 : (20000 : Int) < (n : Int) + o.s.length
        · have hsd : decide ((20000 : Int) < (n : Int) + o.s.length) = true := decide_eq_true h2
          clear h1 h5 h2
          go_wp2_with fail
          exact bodyPost_ret (results_tmp rfl _ _ _) rfl ⟨true, rfl, (by intro h; cases h), HW.out.1⟩
        have hsd : decide ((20000 : Int) < (n : Int) + o.s.length) = false := decide_eq_false h2
        have h2n : n + o.s.length ≤ 20000 := by omega
        clear h1 h5 h2
        go_wp2_with fail
        go_roundw
        case rel => exact ⟨k + 1, n + o.s.length, by go_num, by omega, by omega, by go_num, by omega, HNX⟩
        case measure => simp [intOf]; omega
    · have hnl : ¬ (k : Int) < N := by omega
      have hke : Hid (k = l.length) := Lib.hid (by rw [← HN.out]; omega)
      clear hWw
      go_wp2_with fail
      refine bodyPost_ret (results_tmp rfl _ _ _) rfl ⟨false, rfl, fun _ => ⟨by rw [← hke.out]; exact hk2, fun o ho => HW.out.2 o (by rw [hke.out, List.take_length]; exact ho)⟩, HW.out.1⟩

def PlR (w : World) (d rd k : Nat) (W : World) : Prop := ∃ S S2 s, Pd w W S S2 d rd s s ∧ Ok6 s k
set_option maxHeartbeats 2000000 in
theorem plays06_any (room : Int) (l : List OpE) (a : Option Addr) (cap : Nat) (w : World) (hT : Tabs w) (hr : Rd w 5 a l.length (l.flatMap opc)) (hq : ∀ o ∈ l, OpB w o) (hl : l.length ≤ 4611686018427387904) :
    Calls Tryd.prog 6 #[.int .i64 room, .slice a l.length cap] w fun e W' => e = .returned (.bool true) ∧ Step [] [] w W' := by
  have HT := Lib.hid hT
  have HRD := Lib.hid hr
  have HQ := Lib.hid hq
  clear hT hr hq
  go_enter Tryd.func6, Tryd.ntmps6
  go_wp2_with fail
  refine (awake06_true w HT.out).mono ?_
  rintro e w1 ⟨rfl, st1⟩
  have H1 := Lib.hid st1
  clear st1
  go_wp2_with fail
  refine (new_any room w1).mono ?_
  rintro e w2 (⟨hok, S, d, rfl, hd, st2⟩ | ⟨hok, rfl, st2⟩)
  · have H2 : Hid (Dk w2 S d (newS room) ∧ Step [] S w w2) := Lib.hid ⟨hd, H1.out.trans st2⟩
    have HK := Lib.hid hok
    clear hd st2 hok
    go_wp2_with fail
    refine (rnew_any room w2).mono ?_
    rintro e w3 ⟨rfl, hR3, st3⟩
    have H3 : Hid (Pd w w3 S [w2.heap.size] d w2.heap.size (newS room) (newS room)) := Lib.hid ⟨H2.out.1.keep st3, hR3, fun x hx hm => by simp at hm; have := H2.out.1.lt x hx; omega, H2.out.2.trans (st3.wide (T := S) (by simp) (by intro j hj; rcases List.mem_append.1 hj with hj | hj; exact .inl hj; exact .inr (.inl hj)))⟩
    obtain ⟨rd, hrd⟩ : ∃ rd, rd = w2.heap.size := ⟨_, rfl⟩
    rw [← hrd] at H3 ⊢
    rw [HK.out]
    clear hR3 st3 hrd
    go_wp2_with fail
    refine (great06_any l a cap w3 (H3.out.rdK HRD.out) hl).mono ?_
    rintro e w4 ⟨gb, rfl, hgb, rfl⟩
    cases gb with
    | true =>
      go_wp2_with fail
      exact bodyPost_ret (results_tmp rfl _ _ _) rfl ⟨rfl, H3.out.st.drop (by simp)⟩
    | false =>
      have HG := Lib.hid (hgb rfl)
      clear hgb
      obtain ⟨N, hN⟩ : ∃ N, N = l.length := ⟨_, rfl⟩
      rw [← hN] at hl ⊢
      have HN := Lib.hid hN
      have hN2 : N ≤ 200 := by rw [hN]; exact HG.out.1
      clear hN
      go_wp2_with fail
      go_loopw [40] (fun i W => ∃ k : Nat, i = .int .i64 k ∧ k ≤ N ∧ Hid (PlR w d rd k W)) (fun i _ => N - (intOf i).toNat)
      case atStart => exact ⟨0, rfl, by omega, Lib.hid ⟨_, _, _, H3.out, ok_new HK.out⟩⟩
      case round =>
        rename World => W
        obtain ⟨k, rfl, hkN, HW⟩ := hrel
        obtain ⟨S1, S2, s, hP, hO⟩ := HW.out
        have HP := Lib.hid (And.intro hP hO)
        clear hP hO
        by_cases hlt : k < N
        · have hlt' : (k : Int) < N := by omega
          obtain ⟨o, ho⟩ : ∃ o, l[k]? = some o := ⟨_, List.getElem?_eq_getElem (by rw [← HN.out]; exact hlt)⟩
          obtain ⟨g, off, hs1⟩ := HRD.out.some_ (by rw [← HN.out]; omega)
          have hr2 := HP.out.1.rdK HRD.out
          rw [hs1] at hr2
          obtain ⟨z0, z1, z2, z3, z4⟩ := rd_op hr2 ho
          have gl : g < W.heap.size := by have := World.block_lt_of_cell? _ _ z1; simpa using this
          have HOO : Hid (OpB w o ∧ o.n.length ≤ 1000 ∧ o.s.length ≤ 5000) := Lib.hid ⟨HQ.out o (List.mem_of_getElem? ho), HG.out.2 o (List.mem_of_getElem? ho)⟩
          rw [hs1]
          clear hr2 hs1 ho
          go_wp2_with fail
          refine (does_any o w W S1 S2 d rd s k HP.out.1 HP.out.2 HT.out HOO.out.1 HOO.out.2).mono ?_
          rintro e w5 ⟨rfl, T1, T2, hP2⟩
          have H5 : Hid (Pd w w5 T1 T2 d rd (stepS s o) (stepS s o) ∧ Ok6 (stepS s o) (k + 1)) := Lib.hid ⟨hP2, ok_step HP.out.2 HP.out.1.dk.ris o (by have := HOO.out.2.1; omega) HOO.out.1.m.2 (by omega)⟩
          clear hP2 z0 z1 z2 z3 z4 gl
          go_wp2_with fail
          refine (same06_any w w5 T1 T2 d rd (stepS s o) H5.out.1 H5.out.2.b H5.out.2.nm).mono ?_
          rintro e w6 ⟨rfl, st6⟩
          have H6 : Hid (PlR w d rd (k + 1) w6) := Lib.hid ⟨_, _, _, H5.out.1.keep st6, H5.out.2⟩
          clear st6
          go_wp2_with fail
          go_roundw
          case rel => exact ⟨k + 1, by go_num, by omega, H6⟩
          case measure => simp [intOf]; omega
        · have hnl : ¬ (k : Int) < N := by omega
          go_wp2_with fail
          exact bodyPost_ret (results_tmp rfl _ _ _) rfl ⟨rfl, HP.out.1.st.drop (by simp)⟩
  · have H2 := Lib.hid (H1.out.trans st2)
    have HK := Lib.hid hok
    clear st2 hok
    go_wp2_with fail
    refine (rnew_any room w2).mono ?_
    rintro e w3 ⟨rfl, hR3, st3⟩
    rw [HK.out]
    have H3 : Hid (Step [] [] w w3) := Lib.hid (H2.out.trans (st3.drop (by simp)))
    clear hR3 st3
    go_wp2_with fail
    exact bodyPost_ret (results_tmp rfl _ _ _) rfl ⟨rfl, H3.out⟩
theorem op_evs {w : World} {cs : List Value} (h : Op Tryd.prog w 42 cs) : ∃ (l : List OpE) (a : Option Addr) (cap : Nat), cs = [.slice a l.length cap] ∧ Rd w 5 a l.length (l.flatMap opc) ∧ (∀ o ∈ l, OpB w o) ∧ l.length ≤ 4611686018427387904 := by
  obtain ⟨a, n, cap, e, h1, h2, h3, h4⟩ := h.slice Tryd.underlying42 (sz := 5) (by kernel_rfl)
  obtain ⟨l, hl, hr, hq⟩ := rd_of (w := w) opc 5 (by omega) opc_len (a := a) (n := n) (fun o => OpB w o) (fun i hi => by
    obtain ⟨cs', hlen, ⟨ad, hx, hc⟩, hop⟩ := h4 i hi
    obtain ⟨o, e2, hB⟩ := op_ev hop
    subst e2
    exact ⟨o, ⟨ad, hx, hc⟩, hB⟩)
  subst hl
  exact ⟨l, a, cap, e, hr, hq, by rw [show Tryd.prog.bytesOf 49 = 72 by kernel_rfl] at h3; omega⟩
theorem DiskPlays_walk (v0 v1 : Value) (w : World) {b0 : Nat} (h0 : Value.okWide Tryd.prog w .any b0 3 v0) (o0 : Op Tryd.prog w 3 v0.cells.toList) (h1 : Value.okWide Tryd.prog w .any b0 42 v1) (o1 : Op Tryd.prog w 42 v1.cells.toList) (hT : Tabs w) :
    Calls Tryd.prog 6 #[v0, v1] w fun e w' => e = .returned (.bool true) ∧ Below w.heap.size w w' := by
  obtain ⟨x, rfl⟩ := okWide_int Tryd.underlying3 h0
  obtain ⟨a9, n9, c9, rfl⟩ := okWide_slice Tryd.underlying42 h1
  obtain ⟨l, a, cap, e, hr, hq, hl⟩ := op_evs o1
  simp [Value.cells] at e
  obtain ⟨rfl, rfl, rfl⟩ := e
  exact (plays06_any x l _ _ w hT hr hq hl).mono fun e w' ⟨h1, h2⟩ => ⟨h1, h2.below0⟩

set_option maxRecDepth 100000 in
theorem DiskPlays_lifted (os : Os) (started : os.Started) (H : Type) (enc : TypeId × Value → H) :
    ReturnsInHanded {} Tryd.checked os 6 .any (fun w args => (Rows.diskPlaysSpec.pre enc Tryd.prog Tryd.f6 [] false w args ∧ laidMetH Tryd.prog tabsLaid w) ∧ sizedMet enc Tryd.prog Tryd.f6 (OpenSpec.ofChange Rows.diskPlaysSpec) false w args)
      (Rows.diskPlaysSpec.post enc Tryd.prog Tryd.f6 false true false false) := by
  refine returnsInHanded_of_change_and (C := Tryd.checked) (X := fun w _ => laidMetH Tryd.prog tabsLaid w) (fun _ _ _ hh h => h.of_heap hh) (by kernel_rfl) started (by kernel_rfl) Tryd.func6
    (ChangeSpec.witness_shaped (enc := enc) (C := Tryd.checked) (os := os) (X := fun w _ => laidMetH Tryd.prog tabsLaid w) false (World.laidAll Tryd.prog os tabsLaid) #[.int .i64 0, .slice none 0 0] 8 (World.laidAll_os _ _ _)
      (World.shaped_of_ZipB (by kernel_rfl) (by kernel_rfl)) (by kernel_rfl) (by kernel_rfl) (by kernel_rfl)
      (by rw [MakeChecks.laidMetH_plain _ _ _ (by kernel_rfl)]; exact laidMet_laidAll _ (by kernel_rfl) (by kernel_rfl))) ?_
  intro W base args ds gs before hval0 hW _ hsz0 hL _
  have hval : ∀ (j : Nat) t v, Tryd.f6.params[j]? = some t → args[j]? = some v → Value.okWide Tryd.prog W .any base t v := hval0
  have hsz : (DataW.weightsEach Tryd.prog (Tryd.f6.params.toList ++ Rows.diskPlaysSpec.plain.varTypes Tryd.prog) (ds ++ gs)).all (· ≤ reachBytes) = true := hsz0
  have hW' := hW
  have hT := tabs_of_laid hL
  obtain ⟨p, q, hA0, hV, rfl, _, _⟩ := hW
  have hA : DataW.TrodAll enc Tryd.prog W 0 (fun _ => true) true Tryd.f6.params.toList args.toList ds p := hA0
  rw [Tryd.params6] at hA hval hsz
  obtain ⟨v0, vs0, d0, ds0, p0, q0, hargs, rfl, rfl, h0, r0⟩ := trodAll_cons hA
  obtain ⟨v1, vs1, d1, ds1, p1, q1, rfl, rfl, rfl, h1, r1⟩ := trodAll_cons r0
  obtain ⟨rfl, rfl, rfl⟩ := trodAll_nil r1
  obtain rfl : args = #[v0, v1] := by cases args; simp_all
  obtain ⟨rfl, rfl⟩ := trodVars_none hV
  have lt0 : ∀ x ∈ p0, x.block < W.heap.size := by obtain ⟨m, hm⟩ := h0; exact DataW.trod_lt m _ _ _ hm
  have o0 := op_of hsz (j := 0) rfl rfl h0
  have lt1 : ∀ x ∈ p1, x.block < W.heap.size := by obtain ⟨m, hm⟩ := h1; exact DataW.trod_lt m _ _ _ hm
  have o1 := op_of hsz (j := 1) rfl rfl h1
  refine (DiskPlays_walk v0 v1 W (hval 0 _ v0 rfl rfl) o0 (hval 1 _ v1 rfl rfl) o1 hT).mono fun e W' ⟨he, bel⟩ => ?_
  subst he
  exact ⟨_, rfl, _, _, _, [], _, [], hW', trodAll_mk1 (shut_bool Tryd.underlying4 _), (trodAll_cons_mk (Below.trod (by kernel_rfl) (by kernel_rfl) (of_decide_eq_true (by kernel_rfl)) h0 bel lt0) (trodAll_cons_mk (Below.trod (by kernel_rfl) (by kernel_rfl) (of_decide_eq_true (by kernel_rfl)) h1 bel lt1) trodAll_mk0)), rfl, bel.frame _, fun h => by cases h⟩

/-- The row's statement. -/
theorem DiskPlays_row : Rows.DiskPlaysSaid :=
  OpenClaim.holds_of_wide 6 Tryd.f6 rfl rfl rfl rfl rfl rfl rfl ⟨rfl, rfl, rfl, rfl, rfl⟩ rfl rfl rfl rfl rfl (by kernel_rfl) Tryd.func6 (by kernel_rfl)
    (of_decide_eq_true (by kernel_rfl)) (by unfold Func.isWrapper; rw [if_neg (of_decide_eq_false (by kernel_rfl))]; exact ⟨rfl, rfl⟩)
    (fun os started H enc _ => DiskPlays_lifted os started H enc)
/-- The card. -/
theorem DiskPlays_holds : Rows.DiskPlaysCardSaid :=
  Claim7.holds_tied_plain_at .later [] [.data, .pinned] true Rows.diskPlaysCard.stood.harness false
    DiskPlays_row (fun _ h => by cases h) (by kernel_rfl) (fun _ h => by cases h) diskPlays_row_tie rfl ⟨rfl, rfl⟩ (by kernel_rfl) rfl
    (fun f fn hf hfn => by
      obtain rfl : f = 6 := Option.some.inj ((show Tryd.prog.funcNamed "exchequer/exchequerlaw06.DiskPlays" = some 6 by kernel_rfl).symm.trans hf) |>.symm
      obtain rfl : fn = Tryd.f6 := (Option.some.inj (Tryd.func6.symm.trans hfn)).symm
      exact ⟨by kernel_rfl, fun j t ht => by
        rw [Tryd.params6] at ht
        have hm : t ∈ [3, 42] := by simpa using Array.mem_of_getElem? ht
        have hall : ([3, 42].all fun u => !Tryd.prog.wantsStandIn u) = true := by kernel_rfl
        exact (show Tryd.prog.wantsStandIn t = false by simpa using List.all_eq_true.1 hall t hm)⟩)
    (by kernel_rfl)
#print axioms DiskPlays_holds
end Go.Proofs.YtfkjgkgflkhbnaaDoor
