/-
  PackBack, proved: what was put (a thousand things at most) is read back, thing by thing, to the end. For every input; no condition beyond the form's own.
-/
import Derived.Test.YtjdmigoindhdnaaPackPuts
import Derived.Test.YtjdmigoindhdnaaPackBackPlain
import Derived.Deep.RegionHeld3
namespace Go.Proofs.Ytjdmigoindhdnaa
open Go.RowKit Go.ChangeShapes Go.WideShapes Go.ChangeAt
set_option linter.unusedSimpArgs false
set_option linter.unusedVariables false

set_option maxRecDepth 100000 in
set_option maxHeartbeats 4000000 in
/-- From where the bytes were told. -/
theorem back_some (l : List It) (v : Value) (w : World) (a : Option Addr) (cap : Nat) (hv : v = .slice a l.length cap) (hlc : l.length ≤ cap) (hcm : cap ≤ 9223372036854775807) (hrd : Rd w 4 a l.length (itcs l)) (hok : ∀ x ∈ l, x.ok) :
    Calls Try.prog 7 #[v] w fun e w' => e = .returned (.bool true) ∧ Below w.heap.size w w' := by
  subst hv
  have htm := tamed_ok l hok
  have hT := Lib.hid (And.intro hrd (And.intro hok htm))
  have hplain := Lib.hid (fold_written (tamed l) [] fun x hx => (htm x hx).2)
  clear hrd hok htm
  obtain ⟨bs, f, hw0⟩ : ∃ bs f, written [] (tamed l) = (bs, f) := ⟨_, _, rfl⟩
  have HW := Lib.hid hw0
  clear hw0
  go_enter Try.func7, Try.ntmps7
  go_wp2_with fail
  refine (awake_true w).mono ?_
  rintro e w1 ⟨rfl, k1⟩
  go_wp2_with fail
  refine (tame_any l a cap w1 hlc hcm (hT.out.1.step0 k1)).mono ?_
  rintro e w2 ⟨a2, c2, rfl, r2, k2⟩
  go_wp2_with fail
  have hlen : Hid ((tamed l).length ≤ 9223372036854775807) := by show _ ≤ _; have := r2.le; have := r2.max; unfold maxLen at this; omega
  refine (put_items (tamed l) a2 c2 w2 hlen.out r2.rd (fun x hx => (hT.out.2.2 x hx).1)).mono ?_
  rintro e w3 ⟨p, S, rfl, h3, k3⟩
  go_wp2_with fail
  refine (bytes_any p S _ w3 h3).mono ?_
  rw [hplain.out, HW.out]
  rintro e w4 ⟨rfl, k4⟩
  have k24 := (k3.trans (k4.keep S)).drop (S'' := []) (by simp)
  by_cases hf : f = 0
  · subst hf
    obtain ⟨e1, e2, e3⟩ := written_whole _ _ _ HW.out
    simp at e1 e2
    have HE := Lib.hid (And.intro e1 e3)
    clear e1 e3
    go_wp2_with fail
    refine (read_any bs w4).mono ?_
    rintro e w5 ⟨rfl, hw5⟩
    have hR5 : Hid (Rdr w5 w4.heap.size ⟨bs, false⟩ ∧ Step [] [] w4 w5) := by
      subst hw5
      exact ⟨Blk.new _ _ _, (Step.refl _ _).alloc _⟩
    clear hw5
    have hrow5 := Lib.hid ((r2.step k24 (by simp)).step hR5.out.2 (by simp))
    have hne : Hid (∀ g, g ∈ blks a2 → g ≠ w4.heap.size) := by
      intro g hg he
      have := (r2.step k24 (by simp)).lt g hg
      omega
    have kall := Lib.hid ((((k1.trans (k2.drop (S'' := []) (by simp))).trans k24).trans hR5.out.2))
    have hsz := Lib.hid hR5.out.2.size
    have hbase : Hid (w.heap.size ≤ w4.heap.size) := by
      have := k1.size; have := k2.size; have := k24.size
      show _ ≤ _
      omega
    clear k1 k2 k24 k3 k4 h3 r2
    generalize w4.heap.size = q at *
    generalize hTl : tamed l = T at *
    clear hTl
    rcases Nat.eq_zero_or_pos T.length with h0 | h0
    · have hT0 : T = [] := List.eq_nil_of_length_eq_zero h0
      subst hT0
      have hb0 : bs = [] := by rw [HE.out.1]; rfl
      subst hb0
      clear h0
      go_wp2_with fail
      refine wp_loop_rounds 1 ?_
      rw [rounds_succ]
      go_wp2_with fail
      refine (end_any q _ w5 hR5.out.1).mono ?_
      rintro e w6 ⟨rfl, rfl⟩
      go_wp2_with fail
      go_ret
      exact ⟨rfl, kall.out.below0⟩
    · obtain ⟨g, off, hg⟩ := hrow5.out.some_of_pos h0
      subst hg
      have hgq : g ≠ q := hne.out g (by simp [blks])
      clear hne h0
      have hT63 : T.length ≤ 9223372036854775807 := hlen.out
      go_wp2_with fail
      go_loopw [7, 24] (fun o i wr => ∃ (k : Nat), k ≤ T.length ∧ i = .int .i64 k ∧ Hid (Rdr wr q ⟨(T.drop k).flatMap itB, false⟩ ∧ Step [q] [q] w5 wr))
        (fun _ i _ => T.length - (intOf i).toNat)
      case atStart => exact ⟨0, by omega, rfl, by rw [HE.out.1] at hR5; exact hR5.out.1, Step.refl _ _⟩
      case round =>
        obtain ⟨k, hk, rfl, H⟩ := hrel
        by_cases hlt : k < T.length
        · obtain ⟨hr, hst⟩ := H.out
          have hx : T[k]? = some T[k] := List.getElem?_eq_getElem hlt
          have hmem := List.getElem_mem hlt
          obtain ⟨c0, c1, c2', c3⟩ := rd_item (hrow5.out.rd.step hst (by simp [blks]; exact hgq)) hx
          have hdrop : T.drop k = T[k] :: T.drop (k + 1) := List.drop_eq_getElem_cons hlt
          rw [hdrop, List.flatMap_cons] at hr
          have hxk := HE.out.2 _ hmem
          have hxt := (hT.out.2.2 _ hmem).2
          generalize T[k] = x at *
          obtain ⟨xk, xn, xs, xb⟩ := x
          have hlenr : ((itB ⟨xk, xn, xs, xb⟩) ++ (T.drop (k + 1)).flatMap itB).length ≤ 2097152 := by
            have := e2
            rw [HE.out.1, ← List.take_append_drop k T, List.flatMap_append, List.length_append, hdrop, List.flatMap_cons] at this
            omega
          have HH := Lib.hid (And.intro hr (And.intro hst (And.intro hlenr hxk)))
          clear hdrop hx hr hst H hxk hmem hlenr
          simp only at c0 c1 c2' c3
          generalize hrest : (T.drop (k + 1)).flatMap itB = rest at *
          have HRest := Lib.hid hrest
          clear hrest
          rcases hxt with e | e | e <;> simp only at e <;> subst e
          · have hback : Hid (rnum ⟨itB ⟨0, xn, xs, xb⟩ ++ rest, false⟩ = (xn, ⟨rest, false⟩)) := by
              have h1 := HH.out.2.2.2.1 rfl
              simp only at h1
              have := upto_back xn.toNat rest 4611686018427387903 (by omega) (by omega)
              rw [Int.toNat_of_nonneg h1.1] at this
              exact this
            go_wp2_with fail
            go_region_held3 (fun w' => w'.cell? ⟨g, off + k * 4 + 1, none⟩ = some (.int .i64 xn) ∧ Step [q] [q] wr w') (first | exact ⟨by go_keep, (Step.refl _ _).drew⟩ | exact ⟨Step.cell hk6 (And.left (by assumption)) (by simp; exact hgq), Step.trans (And.right (by assumption)) hk6⟩)
              (first | (go_at_call 19; refine (rnum_any q _ _ (show Rdr wr.drew q _ from HH.out.1) (Nat.le_trans HH.out.2.2.1 (by omega))).mono ?_; rw [hback.out]; rintro e w6 ⟨rfl, h6, hk6⟩) | fail)
            go_wp2_with fail
            go_roundw
            case rel => exact ⟨k + 1, by omega, by go_num, by rw [HRest.out]; exact h6, Step.trans HH.out.2.1 (And.right (by assumption))⟩
            case measure => simp [intOf]; omega
          · have hback : Hid (rtext ⟨itB ⟨1, xn, xs, xb⟩ ++ rest, false⟩ 2097152 = (xs, ⟨rest, false⟩)) := by
              have h1 := HH.out.2.2.2.2
              simp [itB] at h1
              have h2 : xs.length ≤ 2097152 := by omega
              exact text_back xs rest 2097152 (by omega) (by omega)
            go_wp2_with fail
            go_region_held3 (fun w' => w'.cell? ⟨g, off + k * 4 + 2, none⟩ = some (Str xs) ∧ Step [q] [q] wr w') (first | exact ⟨by go_keep, (Step.refl _ _).drew⟩ | exact ⟨Step.cell hk6 (And.left (by assumption)) (by simp; exact hgq), Step.trans (And.right (by assumption)) hk6⟩)
              (first | (go_at_call 18; refine (rtext_any q _ _ _ (show Rdr wr.drew q _ from HH.out.1) (Nat.le_trans HH.out.2.2.1 (by omega))).mono ?_; rw [hback.out]; rintro e w6 ⟨rfl, h6, hk6⟩) | fail)
            go_wp2_with fail
            go_roundw
            case rel => exact ⟨k + 1, by omega, by go_num, by rw [HRest.out]; exact h6, Step.trans HH.out.2.1 (And.right (by assumption))⟩
            case measure => simp [intOf]; omega
          · have hback : Hid (rflag ⟨itB ⟨2, xn, xs, xb⟩ ++ rest, false⟩ = (xb, ⟨rest, false⟩)) := flag_back xb rest
            go_wp2_with fail
            go_region_held3 (fun w' => w'.cell? ⟨g, off + k * 4 + 3, none⟩ = some (.bool xb) ∧ Step [q] [q] wr w') (first | exact ⟨by go_keep, (Step.refl _ _).drew⟩ | exact ⟨Step.cell hk6 (And.left (by assumption)) (by simp; exact hgq), Step.trans (And.right (by assumption)) hk6⟩)
              (first | (go_at_call 23; refine (rflag_any q _ _ (show Rdr wr.drew q _ from HH.out.1) (Nat.le_trans HH.out.2.2.1 (by omega))).mono ?_; rw [hback.out]; rintro e w6 ⟨rfl, h6, hk6⟩) | fail)
            go_wp2_with fail
            go_roundw
            case rel => exact ⟨k + 1, by omega, by go_num, by rw [HRest.out]; exact h6, Step.trans HH.out.2.1 (And.right (by assumption))⟩
            case measure => simp [intOf]; omega
        · obtain rfl : k = T.length := by omega
          have hr := Lib.hid H.out.1
          rw [List.drop_length] at hr
          go_wp2_with fail
          refine (end_any q _ wr hr.out).mono ?_
          rintro e w6 ⟨rfl, rfl⟩
          go_wp2_with fail
          go_ret
          refine ⟨rfl, kall.out.below0.trans ?_⟩
          exact H.out.2.below (by have := hbase.out; have := hsz.out; omega) (by simp; exact hbase.out)
  · have hf' : (f == 0) = false := by simpa using hf
    go_wp2_with fail
    go_ret
    exact ⟨rfl, ((k1.trans (k2.drop (S'' := []) (by simp))).trans k24).below0⟩

theorem PackBack_walk (v : Value) (w : World) {b : Nat} (hv : Value.okWide Try.prog w .any b 22 v) (h : Op Try.prog w 22 v.cells.toList) :
    Calls Try.prog 7 #[v] w fun e w' => e = .returned (.bool true) ∧ Below w.heap.size w w' := by
  obtain ⟨a, n, cap, rfl⟩ := okWide_slice Try.underlying22 hv
  obtain ⟨a', cap', l, e, hlc, hcm, hrd, hok⟩ := op_items h
  exact back_some l _ w a' cap' e hlc (by unfold maxLen at hcm; omega) hrd hok

set_option maxRecDepth 100000 in
theorem PackBack_lifted (os : Os) (started : os.Started) (H : Type) (enc : TypeId × Value → H) :
    ReturnsInHanded {} Try.checked os 7 .any (Rows.packBackSpec.pre6 enc Try.prog Try.f7 Rows.packBackRow.domain false) (Rows.packBackSpec.post enc Try.prog Try.f7 false true false false) := by
  refine returnsInHanded_of_change_sized (C := Try.checked) (by kernel_rfl) started (by kernel_rfl) Try.func7
    (ChangeSpec.witness6 (enc := enc) (C := Try.checked) false ⟨#[], #[.slice none 0 0], []⟩ 8 (by kernel_rfl) (by kernel_rfl) (by kernel_rfl) (by kernel_rfl)) ?_
  intro W base args ds gs before hval0 hW hcnd hsz0 _
  have hval : ∀ (j : Nat) t v, Try.f7.params[j]? = some t → args[j]? = some v → Value.okWide Try.prog W .any base t v := hval0
  have hsz : (DataW.weightsEach Try.prog (Try.f7.params.toList ++ Rows.packBackSpec.plain.varTypes Try.prog) (ds ++ gs)).all (· ≤ reachBytes) = true := hsz0
  have hW' := hW
  obtain ⟨p, q, hA0, hV, rfl, hfz, hnd⟩ := hW
  have hA : DataW.TrodAll enc Try.prog W 0 (fun _ => true) true Try.f7.params.toList args.toList ds p := hA0
  rw [Try.params7] at hA hval hsz
  obtain ⟨v0, vs0, d0, ds0, p0, q0, hargs, rfl, rfl, h0, r0⟩ := trodAll_cons hA
  obtain ⟨rfl, rfl, rfl⟩ := trodAll_nil r0
  obtain rfl : args = #[v0] := by cases args; simp_all
  obtain ⟨rfl, rfl⟩ := trodVars_none hV
  have lt0 : ∀ x ∈ p0, x.block < W.heap.size := by obtain ⟨m, hm⟩ := h0; exact DataW.trod_lt m _ _ _ hm
  have o0 := op_of hsz (j := 0) rfl rfl h0
  refine (PackBack_walk v0 W (hval 0 _ v0 rfl rfl) o0).mono fun e W' ⟨he, bel⟩ => ?_
  subst he
  exact ⟨_, rfl, _, _, _, [], _, [], hW', trodAll_mk1 (shut_bool Try.underlying4 _), (trodAll_cons_mk (Below.trod (by kernel_rfl) (by kernel_rfl) (of_decide_eq_true (by kernel_rfl)) h0 bel lt0) trodAll_mk0), rfl, bel.frame _, fun h => by cases h⟩

/-- The statement. -/
theorem PackBack_holds : Rows.PackBackSaid :=
  OpenClaim.holds_of_wide 7 Try.f7 rfl rfl rfl rfl rfl rfl rfl ⟨rfl, rfl, rfl, rfl, rfl⟩ rfl rfl rfl rfl rfl (by kernel_rfl) Try.func7 (by kernel_rfl)
    (of_decide_eq_true (by kernel_rfl)) (by unfold Func.isWrapper; rw [if_neg (of_decide_eq_false (by kernel_rfl))]; exact ⟨rfl, rfl⟩)
    (fun os started H enc _ => PackBack_lifted os started H enc)
#print axioms PackBack_holds
end Go.Proofs.Ytjdmigoindhdnaa
