/-
  The reference's Append in memory. Conditions: the bounds of StB; the list is rising.
-/
import Derived.Test.YtfkjgkgflkhbnaaDoorDkS
import Derived.Test.YtfkjgkgflkhbnaaDoorNameRefL
namespace Go.Proofs.YtfkjgkgflkhbnaaDoor
open Go.RowKit Go.Maps
set_option linter.unusedSimpArgs false
set_option linter.unusedVariables false
set_option maxRecDepth 100000


theorem StB.burn {s : St} (h : StB s) : StB s.burn := by
  refine ⟨h.room, ?_, h.used, h.len⟩
  have := h.fuse
  show -1 ≤ (if 0 < s.fuse then s.fuse - 1 else s.fuse) ∧ (if 0 < s.fuse then s.fuse - 1 else s.fuse) ≤ 9223372036854775807
  split <;> omega
theorem rused_q {w : World} {S : List Nat} {d : Nat} {s : St} (h : Rf w S d s) (hB : StB s) (n : Nat) : Calls Tryd.prog 35 #[.pointer (some ⟨d, 0, none⟩)] (w.drewN n) fun e w'' => e = .returned (.int .i64 (usedE s.E : Nat)) ∧ ∃ m, w'' = w.drewN m :=
  (rused_any (w.drewN n) S d s (h.keep ((Step.refl [] w).drewN n)) hB).mono fun e w'' ⟨he, m, hm⟩ => ⟨he, n + m, by rw [hm, drewN_add]⟩
theorem bb_asym {a b : List UInt8} (h : bytesBefore a b = true) : bytesBefore b a = false := by
  cases h2 : bytesBefore b a with
  | false => rfl
  | true => have := WideShapes.bytes_trans _ _ _ h h2; rw [WideAt.bytes_irrefl] at this; cases this
theorem eins_at (x : En) : ∀ (A B : List En), (∀ f ∈ A, bytesBefore f.n x.n = true) → (∀ y, B[0]? = some y → bytesBefore x.n y.n = true) → eins x (A ++ B) = A ++ x :: B
  | [], [], _, _ => rfl
  | [], y :: B, _, h => by
    show (if bytesBefore x.n y.n then _ else _) = _
    rw [if_pos (h y rfl)]
    rfl
  | y :: A, B, h1, h2 => by
    show (if bytesBefore x.n y.n then _ else _) = _
    rw [if_neg (by rw [bb_asym (h1 y (by simp))]; simp)]
    show y :: eins x (A ++ B) = _
    rw [eins_at x A B (fun f hf => h1 f (by simp [hf])) h2]
    rfl
theorem bless_eq : ∀ a b : List UInt8, Op.bytesLess a b = bytesBefore a b
  | [], [] => rfl
  | [], _ :: _ => rfl
  | _ :: _, [] => rfl
  | a :: r, b :: s => by simp only [Op.bytesLess, bytesBefore, bless_eq r s]
def ApR (w2 : World) (E : List En) (x : List UInt8) (k : Nat) (oa : Option Addr) (oc : Nat) (W : World) : Prop := Row W 3 oa k oc (enVs (E.take k)) ∧ Step [] (blks oa) w2 W ∧ ∀ f ∈ E.take k, bytesBefore f.n x = true
theorem ApR.next {w2 W w9 : World} {E : List En} {x : List UInt8} {k oc c9 : Nat} {oa a9 : Option Addr} {y : En} (h : ApR w2 E x k oa oc W) (hy : E[k]? = some y) (hb : bytesBefore y.n x = true) (o : Obj)
    (hr : Row w9 3 a9 (k + 1) c9 (enVs (E.take k) ++ enVs [y])) (st : Step (blks oa) (blks a9) (W.alloc o) w9) : ApR w2 E x (k + 1) a9 c9 w9 := by
  have hk := (List.getElem?_eq_some_iff.1 hy).1
  have hg := (List.getElem?_eq_some_iff.1 hy).2
  refine ⟨?_, (h.2.1.alloc o).trans st, fun f hf => ?_⟩
  · rw [List.take_succ_eq_append_getElem hk, hg, enVs_app]
    exact hr
  · rw [List.take_succ_eq_append_getElem hk, hg] at hf
    rcases List.mem_append.1 hf with hf | hf
    · exact h.2.2 f hf
    · simp at hf; subst hf; exact hb

set_option maxHeartbeats 1000000 in
theorem rappend_any (x b : List UInt8) (w : World) (S : List Nat) (d : Nat) (s : St) (h : Rf w S d s) (hB : StB s) (hr : ERis s.E) (hx : x.length ≤ 1099511627776 ∧ b.length ≤ 1099511627776) : Calls Tryd.prog 29 #[.pointer (some ⟨d, 0, none⟩), Str x, Str b] w (RfP (appendS s x b) S d w) := by
  have HR := Lib.hid hr
  have HX := Lib.hid hx
  have HB := Lib.hid (And.intro h hB)
  have hroom := hB.room
  obtain ⟨hr0, hr1⟩ := hroom
  have hbl : b.length ≤ 1099511627776 := hx.2
  obtain ⟨a, cap, h1⟩ := h
  have c1 := h1.blk.cell 1
  have c3 := h1.blk.cell 3
  simp only [List.getElem?_toArray, List.getElem?_cons_zero, List.getElem?_cons_succ] at c1 c3
  have dl := h1.blk.lt
  have HD := Lib.hid h1
  clear hr hx hB h1
  go_enter Tryd.func29, Tryd.ntmps29
  cases ho : s.off with
  | true =>
    have HO := Lib.hid ho
    rw [ho] at c3
    clear ho
    go_wp2_with fail
    refine bodyPost_ret (results_tmp rfl _ _ _) rfl ?_
    simp only [RfP, appendS, HO.out, if_true]
    exact ⟨rfl, S, HB.out.1, Step.refl _ _⟩
  | false =>
    have HO := Lib.hid ho
    rw [ho] at c3
    clear ho
    go_wp2_with fail
    refine (refRight_any x w HX.out.1).mono ?_
    rintro e w1 ⟨rfl, rfl⟩
    cases hrt : rightL x with
    | false =>
      have HRT := Lib.hid hrt
      clear hrt
      go_wp2_with fail
      refine bodyPost_ret (results_tmp rfl _ _ _) rfl ?_
      simp only [RfP, appendS, HO.out, HRT.out, if_true, Bool.false_eq_true, if_false]
      exact ⟨rfl, S, HB.out.1, Step.refl _ _⟩
    | true =>
      have HRT := Lib.hid hrt
      clear hrt
      obtain ⟨U, hU⟩ : ∃ U, U = usedE s.E := ⟨_, rfl⟩
      have hUb : U ≤ 8388608 := by rw [hU]; exact HB.out.2.used
      have hu : ∀ n, Calls Tryd.prog 35 #[.pointer (some ⟨d, 0, none⟩)] (w.drewN n) fun e w'' => e = .returned (.int .i64 (U : Int)) ∧ ∃ m, w'' = w.drewN m := fun n => by rw [hU]; exact rused_q HB.out.1 HB.out.2 n
      have HU := Lib.hid hU
      clear hU c3
      have hwr : IntKind.i64.wrap (s.room - (U : Int)) = s.room - (U : Int) := IntWalk.i64_in _ (by omega)
      by_cases hfull : s.room < (U : Int) + b.length
      · have HFU : Hid ((usedE s.E : Int) + b.length > s.room) := Lib.hid (by rw [← HU.out]; omega)
        by_cases h1 : s.room < (U : Int)
        · have h1d : decide (s.room < (U : Int)) = true := decide_eq_true h1
          clear h1 hfull
          go_upto_region 5 with fail
          refine wp_region_quiet_lit (by kernel_rfl) (by kernel_rfl) ?_
          repeat go_big_quiet_step (with_reducible exact hu _)
          refine wpQuiet_nil ?_
          intro W5 hw5
          obtain ⟨n5, hW5⟩ := hw5
          by_cases hb0 : 0 < b.length
          · have hbd : decide (0 < b.length) = true := decide_eq_true hb0
            have hbi : decide ((0 : Int) < (b.length : Int)) = true := decide_eq_true (by omega)
            clear hb0
            have c1' := cell_drewN hW5 c1
            have dl' : d < W5.heap.size := by rw [hW5]; exact dl
            have hu5 : ∀ n, Calls Tryd.prog 35 #[.pointer (some ⟨d, 0, none⟩)] (W5.drewN n) fun e w'' => e = .returned (.int .i64 (U : Int)) ∧ ∃ m, w'' = W5.drewN m := fun n => by rw [HU.out, hW5]; exact rused_q (HB.out.1.keep ((Step.refl [] w).drewN n5)) HB.out.2 n
            have HW5 := Lib.hid hW5
            clear hW5
            go_upto_region 6 with fail
            refine wp_region_quiet_lit (by kernel_rfl) (by kernel_rfl) ?_
            repeat go_big_quiet_step (with_reducible exact hu5 _)
            refine wpQuiet_nil ?_
            intro W6 hw6
            obtain ⟨n6, hW6⟩ := hw6
            have HW6 : Hid (W6 = w.drewN (n5 + n6)) := Lib.hid (by rw [hW6, HW5.out, drewN_add])
            clear hW6
            go_wp2_with fail
            refine bodyPost_ret (results_tmp rfl _ _ _) rfl ?_
            simp only [RfP, appendS, HO.out, HRT.out, Bool.false_eq_true, if_false, Bool.true_eq_false]
            rw [if_pos HFU.out]
            rw [HW6.out]
            exact ⟨rfl, S, HB.out.1.keep ((Step.refl [] w).drewN _), ((Step.refl [] w).drewN _).keep S⟩
          · have hbd : decide (0 < b.length) = false := decide_eq_false hb0
            have hbi : decide ((0 : Int) < (b.length : Int)) = false := decide_eq_false (by omega)
            clear hb0
            have c1' := cell_drewN hW5 c1
            have dl' : d < W5.heap.size := by rw [hW5]; exact dl
            have hu5 : ∀ n, Calls Tryd.prog 35 #[.pointer (some ⟨d, 0, none⟩)] (W5.drewN n) fun e w'' => e = .returned (.int .i64 (U : Int)) ∧ ∃ m, w'' = W5.drewN m := fun n => by rw [HU.out, hW5]; exact rused_q (HB.out.1.keep ((Step.refl [] w).drewN n5)) HB.out.2 n
            have HW5 := Lib.hid hW5
            clear hW5
            go_upto_region 6 with fail
            refine wp_region_quiet_lit (by kernel_rfl) (by kernel_rfl) ?_
            repeat go_big_quiet_step (with_reducible exact hu5 _)
            refine wpQuiet_nil ?_
            intro W6 hw6
            obtain ⟨n6, hW6⟩ := hw6
            have HW6 : Hid (W6 = w.drewN (n5 + n6)) := Lib.hid (by rw [hW6, HW5.out, drewN_add])
            clear hW6
            go_wp2_with fail
            refine bodyPost_ret (results_tmp rfl _ _ _) rfl ?_
            simp only [RfP, appendS, HO.out, HRT.out, Bool.false_eq_true, if_false, Bool.true_eq_false]
            rw [if_pos HFU.out]
            rw [HW6.out]
            exact ⟨rfl, S, HB.out.1.keep ((Step.refl [] w).drewN _), ((Step.refl [] w).drewN _).keep S⟩
        · have h1d : decide (s.room < (U : Int)) = false := decide_eq_false h1
          have hg2 : decide (s.room - (U : Int) < (b.length : Int)) = true := decide_eq_true (by omega)
          have hbd : decide (0 < b.length) = true := decide_eq_true (by omega)
          have hbi : decide ((0 : Int) < (b.length : Int)) = true := decide_eq_true (by omega)
          clear h1 hfull
          go_upto_region 5 with fail
          refine wp_region_quiet_lit (by kernel_rfl) (by kernel_rfl) ?_
          repeat go_big_quiet_step (with_reducible exact hu _)
          refine wpQuiet_nil ?_
          intro W5 hw5
          obtain ⟨n5, hW5⟩ := hw5
          have c1' := cell_drewN hW5 c1
          have dl' : d < W5.heap.size := by rw [hW5]; exact dl
          have hu5 : ∀ n, Calls Tryd.prog 35 #[.pointer (some ⟨d, 0, none⟩)] (W5.drewN n) fun e w'' => e = .returned (.int .i64 (U : Int)) ∧ ∃ m, w'' = W5.drewN m := fun n => by rw [HU.out, hW5]; exact rused_q (HB.out.1.keep ((Step.refl [] w).drewN n5)) HB.out.2 n
          have HW5 := Lib.hid hW5
          clear hW5
          go_upto_region 6 with fail
          refine wp_region_quiet_lit (by kernel_rfl) (by kernel_rfl) ?_
          repeat go_big_quiet_step (with_reducible exact hu5 _)
          refine wpQuiet_nil ?_
          intro W6 hw6
          obtain ⟨n6, hW6⟩ := hw6
          have HW6 : Hid (W6 = w.drewN (n5 + n6)) := Lib.hid (by rw [hW6, HW5.out, drewN_add])
          clear hW6
          go_wp2_with fail
          refine bodyPost_ret (results_tmp rfl _ _ _) rfl ?_
          simp only [RfP, appendS, HO.out, HRT.out, Bool.false_eq_true, if_false, Bool.true_eq_false]
          rw [if_pos HFU.out]
          rw [HW6.out]
          exact ⟨rfl, S, HB.out.1.keep ((Step.refl [] w).drewN _), ((Step.refl [] w).drewN _).keep S⟩
      · have h1d : decide (s.room < (U : Int)) = false := decide_eq_false (by omega)
        have hg2 : decide (s.room - (U : Int) < (b.length : Int)) = false := decide_eq_false (by omega)
        have HFU : Hid (¬ ((usedE s.E : Int) + b.length > s.room)) := Lib.hid (by rw [← HU.out]; omega)
        clear hfull
        go_upto_region 5 with fail
        refine wp_region_quiet_lit (by kernel_rfl) (by kernel_rfl) ?_
        repeat go_big_quiet_step (with_reducible exact hu _)
        refine wpQuiet_nil ?_
        intro W5 hw5
        obtain ⟨n5, hW5⟩ := hw5
        clear h1d hg2 hwr hu hUb hr0 hr1 c1 dl
        have H0 : Hid (Rfm W5 S d a cap s ∧ Step [] [] w W5) := Lib.hid (by rw [hW5]; exact ⟨HD.out.step ((Step.refl [] w).drewN n5) (by simp), (Step.refl [] w).drewN n5⟩)
        clear hW5
        go_wp2_with fail
        refine (rburns_any W5 S d cap a s H0.out.1 HB.out.2.fuse.2).mono ?_
        rintro e w2 ⟨rfl, hb2, hs2⟩
        have hw2 : Step S S w w2 := (H0.out.2.keep S).trans (hs2.wide (by intro k hk; simp only [List.mem_singleton] at hk; rw [hk, HD.out.hS]; simp) (by intro k hk; exact .inl hk))
        have H2 := Lib.hid (And.intro hb2 hw2)
        clear hb2 hs2 hw2 H0
        cases hbo : s.burn.off with
        | true =>
          have HQ := Lib.hid hbo
          clear hbo
          go_wp2_with fail
          refine bodyPost_ret (results_tmp rfl _ _ _) rfl ?_
          simp only [RfP, appendS, HO.out, HRT.out, HQ.out, Bool.false_eq_true, if_false, if_true, Bool.true_eq_false]
          rw [if_neg (by have := HFU.out; omega)]
          exact ⟨rfl, S, ⟨a, cap, H2.out.1⟩, H2.out.2⟩
        | false =>
          have HQ := Lib.hid hbo
          clear hbo
          go_wp2_with fail
          refine (rat_any x w2 S d s.burn ⟨a, cap, H2.out.1⟩ HB.out.2.burn).mono ?_
          rintro e w3 ⟨rfl, rfl⟩
          cases hg : eget s.E x with
          | some f =>
            obtain ⟨A, B, hE, hfn, hai, hel⟩ := atI_split hg
            rw [show atI s.burn.E x = (A.length : Int) from hai]
            have HG := Lib.hid (And.intro hg (And.intro hE (And.intro hfn hel)))
            have hAE : A.length < s.E.length := by rw [hE]; simp
            have hAi : (A.length : Int) < (s.E.length : Int) := by omega
            have hnn : decide (0 ≤ (A.length : Int)) = true := decide_eq_true (by omega)
            clear hg hE hfn hai hel
            obtain ⟨g, off, hs1⟩ := (HD.out.row).some_of_pos (by omega)
            have hful : f.d.length + f.l.length ≤ 8388608 := by
              have := used_mem (E := s.E) (f := f) (by rw [HG.out.2.1]; simp)
              have := HB.out.2.used
              omega
            have H3 : Hid (Rfm w2 S d (some ⟨g, off, none⟩) cap s.burn) := Lib.hid (by rw [← hs1]; exact H2.out.1)
            have hr2 := rd_en (E := s.E) H3.out.row.rd HG.out.2.2.2
            have H3d := H3.out.step (Step.refl [] w2).drew (by simp)
            have hr2d := rd_en (E := s.E) H3d.row.rd HG.out.2.2.2
            have c0 := H3.out.blk.cell 0
            have c0d := H3d.blk.cell 0
            simp only [List.getElem?_toArray, List.getElem?_cons_zero, List.getElem?_cons_succ] at c0 c0d
            rw [show s.burn.E = s.E from rfl] at c0 c0d
            obtain ⟨z0, z1, z2⟩ := hr2
            obtain ⟨z0d, z1d, z2d⟩ := hr2d
            have gl : g < w2.heap.size := by have := World.block_lt_of_cell? _ _ z1; simpa using this
            have gld : g < w2.drew.heap.size := gl
            have y2 := (H3.out.row.cell rfl (A.length * 3 + 2) (by show _ < s.E.length * 3; omega)).2.1
            have y2d := (H3d.row.cell rfl (A.length * 3 + 2) (by show _ < s.E.length * 3; omega)).2.1
            rw [← Nat.add_assoc] at y2 y2d
            have hcat : f.l.length + b.length ≤ 9223372036854775807 := by omega
            clear z0 z1 z0d z1d H3d hs1
            go_upto_region 12 with fail
            refine still_tail 15 (by kernel_rfl) (by kernel_rfl) ?_
            simp only [List.take_succ_cons, List.take_zero, List.drop_succ_cons, List.drop_zero]
            repeat still_step
            refine wpStill_nil ?_
            go_wp2_with fail
            obtain ⟨hfin, hst⟩ := H3.out.late HG.out.2.1 (f.l ++ b)
            refine bodyPost_ret (results_tmp rfl _ _ _) rfl ?_
            simp only [RfP, appendS, HO.out, HRT.out, HQ.out, Bool.false_eq_true, if_false, Bool.true_eq_false]
            rw [if_neg (by have := HFU.out; omega)]
            have hadd : addE s.E x b = A ++ ⟨f.n, f.d, f.l ++ b⟩ :: B := by
              simp only [addE, HG.out.1]
              rw [HG.out.2.1, ← HG.out.2.2.1, emod_mid (by rw [← HG.out.2.1]; exact HR.out)]
            rw [hadd]
            refine ⟨rfl, S, ⟨some ⟨g, off, none⟩, cap, ?_⟩, H2.out.2.trans hst.drew⟩
            have := hfin.step ((Step.refl [] _).drew) (by simp)
            rw [← HQ.out]
            exact this
          | none =>
            rw [show atI s.burn.E x = -1 from atI_miss hg]
            have HG := Lib.hid hg
            clear hg
            have c0 := H2.out.1.blk.cell 0
            simp only [List.getElem?_toArray, List.getElem?_cons_zero, List.getElem?_cons_succ] at c0
            rw [show s.burn.E = s.E from rfl] at c0
            have hNl : s.E.length ≤ 1099511627776 := HB.out.2.len
            obtain ⟨N, hN⟩ : ∃ N, N = s.E.length := ⟨_, rfl⟩
            rw [← hN] at c0 hNl
            have HN := Lib.hid hN
            clear hN
            obtain ⟨i0, hi, hz0, hz1, hz2⟩ := info_parts Tryd.info_file
            have HI := Lib.hid (And.intro hi (And.intro hz0 (And.intro hz1 hz2)))
            clear hi hz0 hz1 hz2
            go_upto_block 0 with fail
            go_cut [8, 9] (fun l i wx => ∃ (k oc : Nat) (oa : Option Addr), i = .int .i64 k ∧ k ≤ N ∧ l = .slice oa k oc ∧ Hid (ApR w2 s.E x k oa oc wx ∧ ∀ y, (s.E.drop k)[0]? = some y → bytesBefore x y.n = true))
            case first =>
              go_wp2_with fail
              go_loopw [8, 9] (fun l i W => ∃ (k oc : Nat) (oa : Option Addr), i = .int .i64 k ∧ k ≤ N ∧ l = .slice oa k oc ∧ Hid (ApR w2 s.E x k oa oc W)) (fun _ i _ => N - (intOf i).toNat)
              case atStart => exact ⟨0, 0, some ⟨w2.heap.size, 0, none⟩, rfl, by omega, rfl, Lib.hid ⟨Row.empty w2 77 3, by have := (Step.refl [] w2).hold (.cells #[] 77); simpa [blks] using this, by simp⟩⟩
              case round =>
                rename World => W
                obtain ⟨k, oc, oa, rfl, hkN, rfl, HW⟩ := hrel
                have H2W := H2.out.1.step HW.out.2.1 (by simp)
                have c0' := H2W.blk.cell 0
                simp only [List.getElem?_toArray, List.getElem?_cons_zero, List.getElem?_cons_succ] at c0'
                rw [show s.burn.E = s.E from rfl, ← HN.out] at c0'
                clear c0
                by_cases hlt : k < N
                · have hlt' : (k : Int) < N := by omega
                  obtain ⟨y, hy⟩ : ∃ y, s.E[k]? = some y := ⟨_, List.getElem?_eq_getElem (by rw [← HN.out]; exact hlt)⟩
                  obtain ⟨g, off, hs1⟩ := H2W.row.some_of_pos (by show 0 < s.E.length; rw [← HN.out]; omega)
                  have hr := H2W.row.rd
                  rw [hs1] at hr c0'
                  obtain ⟨z0, z1, z2⟩ := rd_en (E := s.E) hr hy
                  have gl : g < W.heap.size := by have := World.block_lt_of_cell? _ _ z1; simpa using this
                  have HY := Lib.hid hy
                  clear hr hs1 H2W hy
                  cases hbb : bytesBefore y.n x with
                  | true =>
                    have HBB := Lib.hid hbb
                    have hbl2 : Op.bytesLess y.n x = true := by rw [bless_eq]; exact hbb
                    clear hbb
                    go_upto_region 18 with (at_builtin; refine wpList_append_row rfl (.tmp 92) (.tmp 100) 68 68 rfl 77 i0 _ 3 48 Tryd.underlying68 HI.out.1 HI.out.2.1 HI.out.2.2.1 HI.out.2.2.2 rfl rfl (HW.out.1.alloc _) rfl (Src.rd 68 77 Tryd.underlying68 (rd_blk' (xs := enVs [y]) (Blk.new W 77 _) 3 1 rfl) (enVs_one _)) (by unfold maxLen; omega) (by omega) (by omega) ?_; intro a9 c9 w9 hr9 st9; have H9 : Hid (ApR w2 s.E x (k + 1) a9 c9 w9) := Lib.hid (HW.out.next HY.out HBB.out _ hr9 st9); clear hr9 st9)
                    go_wp2_with fail
                    go_roundw
                    case rel => exact ⟨k + 1, c9, a9, by go_num, by omega, rfl, H9⟩
                    case measure => simp [intOf]; omega
                  | false =>
                    have hbl2 : Op.bytesLess y.n x = false := by rw [bless_eq]; exact hbb
                    have HE : Hid (∀ y, (s.E.drop k)[0]? = some y → bytesBefore x y.n = true) := Lib.hid (by
                      intro z hz
                      rw [List.getElem?_drop, Nat.add_zero, HY.out] at hz
                      cases hz
                      have hne : y.n ≠ x := fun e => by
                        have := List.find?_eq_none.1 (show s.E.find? (fun f => f.n == x) = none from HG.out) y (List.mem_of_getElem? HY.out)
                        simp [e] at this
                      rcases WideAt.bytes_total y.n x hne with h | h
                      · rw [hbb] at h; cases h
                      · exact h)
                    clear hbb
                    go_wp2_with fail
                    go_meet
                    exact ⟨k, oc, oa, rfl, by omega, rfl, Lib.hid ⟨HW.out, HE.out⟩⟩
                · have hnl : ¬ (k : Int) < N := by omega
                  have hnd : decide (k < N) = false := decide_eq_false hlt
                  have HE : Hid (∀ y, (s.E.drop k)[0]? = some y → bytesBefore x y.n = true) := Lib.hid (by
                    intro y hy
                    rw [List.getElem?_drop] at hy
                    have := (List.getElem?_eq_some_iff.1 hy).1
                    rw [← HN.out] at this
                    omega)
                  clear H2W
                  go_wp2_with fail
                  go_meet
                  exact ⟨k, oc, oa, rfl, by omega, rfl, Lib.hid ⟨HW.out, HE.out⟩⟩
            case rest =>
              clear c0
              rename World => V
              obtain ⟨k, oc, oa, rfl, hkN, rfl, HV⟩ := hcut
              have HKN := Lib.hid hkN
              have HAD : Hid (addE s.E x b = s.E.take k ++ ⟨x, [], b⟩ :: s.E.drop k) := Lib.hid (by
                simp only [addE, HG.out]
                conv => lhs; rw [← List.take_append_drop k s.E]
                exact eins_at ⟨x, [], b⟩ _ _ HV.out.1.2.2 HV.out.2)
              go_upto_region 20 with (at_builtin; refine wpList_append_row rfl (.tmp 104) (.tmp 108) 68 68 rfl 77 i0 _ 3 48 Tryd.underlying68 HI.out.1 HI.out.2.1 HI.out.2.2.1 HI.out.2.2.2 rfl rfl (HV.out.1.1.alloc _) rfl (Src.rd 68 77 Tryd.underlying68 (rd_blk' (xs := enVs [⟨x, [], b⟩]) (Blk.new V 77 _) 3 1 rfl) (enVs_one _)) (by unfold maxLen; omega) (by omega) (by omega) ?_; intro a9 c9 w9 hr9 st9; have H9 : Hid (Row w9 3 a9 (k + 1) c9 (enVs (s.E.take k) ++ enVs [⟨x, [], b⟩]) ∧ Step [] (blks a9) w2 w9) := Lib.hid ⟨hr9, (HV.out.1.2.1.alloc _).trans st9⟩; clear hr9 st9)
              have H3' := H2.out.1.step H9.out.2 (by simp)
              have H4 := Lib.hid H3'
              have c0 := H3'.blk.cell 0
              simp only [List.getElem?_toArray, List.getElem?_cons_zero, List.getElem?_cons_succ] at c0
              rw [show s.burn.E = s.E from rfl, ← HN.out] at c0
              have hcl := H3'.row.le
              rw [show s.burn.E = s.E from rfl, ← HN.out] at hcl
              have hcm := H3'.row.max
              have hnil := H3'.row.nil
              clear H3'
              have HDA : Hid (d ∉ blks a9) := Lib.hid (fun hm => by
                rcases H9.out.2.fresh d hm with h | h
                · simp at h
                · have := H2.out.1.blk.lt; omega)
              have hNc : (N : Int) ≤ (cap : Int) := by omega
              have hkc : (k : Int) ≤ (cap : Int) := by omega
              have hki : (k : Int) ≤ (N : Int) := by omega
              cases a with
              | none =>
                have hc0 := hnil rfl
                obtain rfl : cap = 0 := hc0
                obtain rfl : N = 0 := by omega
                obtain rfl : k = 0 := by omega
                have HS2 : Hid (Rd w9 3 none (0 - 0) (enVs (s.E.drop 0))) := Lib.hid (by
                  have : s.E = [] := List.eq_nil_of_length_eq_zero HN.out.symm
                  rw [this]
                  exact (Row.none w9 3).rd)
                clear hnil
                go_wp2_with (at_builtin; refine wpList_append_row rfl (.tmp 111) (.tmp 117) 68 68 rfl 77 i0 _ 3 48 Tryd.underlying68 HI.out.1 HI.out.2.1 HI.out.2.2.1 HI.out.2.2.2 rfl rfl H9.out.1 rfl (Src.rd 68 77 Tryd.underlying68 HS2.out (enVs_one _)) (by unfold maxLen; omega) (by omega) (by omega) ?_; intro b9 d9 v9 hr9 st9; have G9 : Hid (Row v9 3 b9 (0 + 1 + (0 - 0)) d9 ((enVs (s.E.take 0) ++ enVs [⟨x, [], b⟩]) ++ enVs (s.E.drop 0)) ∧ Step (blks a9) (blks b9) w9 v9) := Lib.hid ⟨hr9, st9⟩; have HD9 := H4.out.blk.step st9 HDA.out; have dl := HD9.lt; have df := HD9.frozen 0; have cc := HD9.cell 0; simp only [List.getElem?_toArray, List.getElem?_cons_zero, List.getElem?_cons_succ] at cc; have HE9 := Lib.hid HD9; clear hr9 st9 HD9 c0)
                have hdb : d ∉ blks b9 := fun hm => by
                  rcases G9.out.2.fresh d hm with h | h
                  · exact HDA.out h
                  · have := H4.out.blk.lt; omega
                obtain ⟨v10, hv10⟩ : ∃ v, v = v9.setCell ⟨d, 0, none⟩ (.slice b9 (0 + 1 + (0 - 0)) d9) := ⟨_, rfl⟩
                have hbk := HE9.out.set 0 (.slice b9 (0 + 1 + (0 - 0)) d9)
                have hs0 : Step [] (blks b9) w2 v9 := H9.out.2.trans G9.out.2
                have hs1 : Step S (d :: blks b9) w2 v10 := by
                  rw [hv10]
                  exact (hs0.wide (T := S) (S'' := d :: blks b9) (by simp) (by
                    intro k hk
                    rcases List.mem_cons.1 hk with rfl | hk
                    · exact .inl HD.out.memd
                    · exact .inr (.inl hk))).setCell (p := ⟨d, 0, none⟩) (.inl (by simp)) _
                rw [← hv10] at hbk ⊢
                have hrow : Row v10 3 b9 (0 + 1 + (0 - 0)) d9 (enVs (addE s.E x b)) := by
                  rw [hv10, HAD.out, show s.E.take 0 ++ (⟨x, [], b⟩ : En) :: s.E.drop 0 = (s.E.take 0 ++ [⟨x, [], b⟩]) ++ s.E.drop 0 by simp, enVs_app, enVs_app]
                  exact G9.out.1.step ((Step.refl [d] v9).setCell (p := ⟨d, 0, none⟩) (.inl (by simp)) _) (by intro k hk hm; simp only [List.mem_singleton] at hm; exact hdb (hm ▸ hk))
                have hlen : 0 + 1 + (0 - 0) = (addE s.E x b).length := by rw [HAD.out]; have := HN.out; simp only [List.take_zero, List.nil_append, List.length_cons, List.drop_zero]; omega
                refine bodyPost_ret (results_tmp rfl _ _ _) rfl ?_
                simp only [RfP, appendS, HO.out, HRT.out, HQ.out, Bool.false_eq_true, if_false, Bool.true_eq_false]
                rw [if_neg (by have := HFU.out; omega)]
                refine ⟨rfl, d :: blks b9, ⟨b9, d9, rfl, ?_, ?_, hdb⟩, H2.out.2.trans hs1⟩
                · rw [hlen] at hbk
                  rw [← HQ.out]
                  simpa using hbk
                · simp only
                  rw [← hlen]
                  exact hrow
              | some ad =>
                obtain ⟨g, off, sp⟩ := ad
                have hsp : sp = none := (H4.out.row.at_ _ rfl).1
                subst hsp
                have HS2 : Hid (Rd w9 3 (if cap = k then some ⟨g, off, none⟩ else some ⟨g, off + k * 3, none⟩) (N - k) (enVs (s.E.drop k))) := Lib.hid (by
                  have h1 := (H4.out.row.sub k N (by omega) (by show N ≤ s.E.length; rw [← HN.out]; exact Nat.le_refl _)).rd
                  have hB : ((enVs s.burn.E).drop (k * 3)).take ((N - k) * 3) = enVs (s.E.drop k) := by
                    have l1 : (s.E.take k).length = k := by rw [List.length_take, ← HN.out]; omega
                    rw [show s.burn.E = s.E.take k ++ s.E.drop k by rw [List.take_append_drop]; rfl]
                    conv => lhs; rw [← l1]
                    rw [l1]
                    conv => lhs; arg 2; arg 1; rw [← l1]
                    rw [enVs_drop, List.take_of_length_le]
                    rw [enVs_len, List.length_drop, ← HN.out]
                    omega
                  rw [hB] at h1
                  simpa [addr_add] using h1)
                clear hnil
                by_cases hcj : cap = k
                · rw [if_pos hcj] at HS2
                  go_wp2_with (at_builtin; refine wpList_append_row rfl (.tmp 111) (.tmp 117) 68 68 rfl 77 i0 _ 3 48 Tryd.underlying68 HI.out.1 HI.out.2.1 HI.out.2.2.1 HI.out.2.2.2 rfl rfl H9.out.1 rfl (Src.rd 68 77 Tryd.underlying68 HS2.out (enVs_one _)) (by unfold maxLen; omega) (by omega) (by omega) ?_; intro b9 d9 v9 hr9 st9; have G9 : Hid (Row v9 3 b9 (k + 1 + (N - k)) d9 ((enVs (s.E.take k) ++ enVs [⟨x, [], b⟩]) ++ enVs (s.E.drop k)) ∧ Step (blks a9) (blks b9) w9 v9) := Lib.hid ⟨hr9, st9⟩; have HD9 := H4.out.blk.step st9 HDA.out; have dl := HD9.lt; have df := HD9.frozen 0; have cc := HD9.cell 0; simp only [List.getElem?_toArray, List.getElem?_cons_zero, List.getElem?_cons_succ] at cc; have HE9 := Lib.hid HD9; clear hr9 st9 HD9 c0)
                  have hdb : d ∉ blks b9 := fun hm => by
                    rcases G9.out.2.fresh d hm with h | h
                    · exact HDA.out h
                    · have := H4.out.blk.lt; omega
                  obtain ⟨v10, hv10⟩ : ∃ v, v = v9.setCell ⟨d, 0, none⟩ (.slice b9 (k + 1 + (N - k)) d9) := ⟨_, rfl⟩
                  have hbk := HE9.out.set 0 (.slice b9 (k + 1 + (N - k)) d9)
                  have hs0 : Step [] (blks b9) w2 v9 := H9.out.2.trans G9.out.2
                  have hs1 : Step S (d :: blks b9) w2 v10 := by
                    rw [hv10]
                    exact (hs0.wide (T := S) (S'' := d :: blks b9) (by simp) (by
                      intro k hk
                      rcases List.mem_cons.1 hk with rfl | hk
                      · exact .inl HD.out.memd
                      · exact .inr (.inl hk))).setCell (p := ⟨d, 0, none⟩) (.inl (by simp)) _
                  rw [← hv10] at hbk ⊢
                  have hrow : Row v10 3 b9 (k + 1 + (N - k)) d9 (enVs (addE s.E x b)) := by
                    rw [hv10, HAD.out, show s.E.take k ++ (⟨x, [], b⟩ : En) :: s.E.drop k = (s.E.take k ++ [⟨x, [], b⟩]) ++ s.E.drop k by simp, enVs_app, enVs_app]
                    exact G9.out.1.step ((Step.refl [d] v9).setCell (p := ⟨d, 0, none⟩) (.inl (by simp)) _) (by intro k hk hm; simp only [List.mem_singleton] at hm; exact hdb (hm ▸ hk))
                  have hlen : k + 1 + (N - k) = (addE s.E x b).length := by rw [HAD.out, HN.out]; have := HKN.out; rw [HN.out] at this; simp; omega
                  refine bodyPost_ret (results_tmp rfl _ _ _) rfl ?_
                  simp only [RfP, appendS, HO.out, HRT.out, HQ.out, Bool.false_eq_true, if_false, Bool.true_eq_false]
                  rw [if_neg (by have := HFU.out; omega)]
                  refine ⟨rfl, d :: blks b9, ⟨b9, d9, rfl, ?_, ?_, hdb⟩, H2.out.2.trans hs1⟩
                  · rw [hlen] at hbk
                    rw [← HQ.out]
                    simpa using hbk
                  · simp only
                    rw [← hlen]
                    exact hrow
                · rw [if_neg hcj] at HS2
                  go_wp2_with (at_builtin; refine wpList_append_row rfl (.tmp 111) (.tmp 117) 68 68 rfl 77 i0 _ 3 48 Tryd.underlying68 HI.out.1 HI.out.2.1 HI.out.2.2.1 HI.out.2.2.2 rfl rfl H9.out.1 rfl (Src.rd 68 77 Tryd.underlying68 HS2.out (enVs_one _)) (by unfold maxLen; omega) (by omega) (by omega) ?_; intro b9 d9 v9 hr9 st9; have G9 : Hid (Row v9 3 b9 (k + 1 + (N - k)) d9 ((enVs (s.E.take k) ++ enVs [⟨x, [], b⟩]) ++ enVs (s.E.drop k)) ∧ Step (blks a9) (blks b9) w9 v9) := Lib.hid ⟨hr9, st9⟩; have HD9 := H4.out.blk.step st9 HDA.out; have dl := HD9.lt; have df := HD9.frozen 0; have cc := HD9.cell 0; simp only [List.getElem?_toArray, List.getElem?_cons_zero, List.getElem?_cons_succ] at cc; have HE9 := Lib.hid HD9; clear hr9 st9 HD9 c0)
                  have hdb : d ∉ blks b9 := fun hm => by
                    rcases G9.out.2.fresh d hm with h | h
                    · exact HDA.out h
                    · have := H4.out.blk.lt; omega
                  obtain ⟨v10, hv10⟩ : ∃ v, v = v9.setCell ⟨d, 0, none⟩ (.slice b9 (k + 1 + (N - k)) d9) := ⟨_, rfl⟩
                  have hbk := HE9.out.set 0 (.slice b9 (k + 1 + (N - k)) d9)
                  have hs0 : Step [] (blks b9) w2 v9 := H9.out.2.trans G9.out.2
                  have hs1 : Step S (d :: blks b9) w2 v10 := by
                    rw [hv10]
                    exact (hs0.wide (T := S) (S'' := d :: blks b9) (by simp) (by
                      intro k hk
                      rcases List.mem_cons.1 hk with rfl | hk
                      · exact .inl HD.out.memd
                      · exact .inr (.inl hk))).setCell (p := ⟨d, 0, none⟩) (.inl (by simp)) _
                  rw [← hv10] at hbk ⊢
                  have hrow : Row v10 3 b9 (k + 1 + (N - k)) d9 (enVs (addE s.E x b)) := by
                    rw [hv10, HAD.out, show s.E.take k ++ (⟨x, [], b⟩ : En) :: s.E.drop k = (s.E.take k ++ [⟨x, [], b⟩]) ++ s.E.drop k by simp, enVs_app, enVs_app]
                    exact G9.out.1.step ((Step.refl [d] v9).setCell (p := ⟨d, 0, none⟩) (.inl (by simp)) _) (by intro k hk hm; simp only [List.mem_singleton] at hm; exact hdb (hm ▸ hk))
                  have hlen : k + 1 + (N - k) = (addE s.E x b).length := by rw [HAD.out, HN.out]; have := HKN.out; rw [HN.out] at this; simp; omega
                  refine bodyPost_ret (results_tmp rfl _ _ _) rfl ?_
                  simp only [RfP, appendS, HO.out, HRT.out, HQ.out, Bool.false_eq_true, if_false, Bool.true_eq_false]
                  rw [if_neg (by have := HFU.out; omega)]
                  refine ⟨rfl, d :: blks b9, ⟨b9, d9, rfl, ?_, ?_, hdb⟩, H2.out.2.trans hs1⟩
                  · rw [hlen] at hbk
                    rw [← HQ.out]
                    simpa using hbk
                  · simp only
                    rw [← hlen]
                    exact hrow

end Go.Proofs.YtfkjgkgflkhbnaaDoor
