/-
  ClientNotes: any note is read as it was made, and any bytes are a note just if the document says so. No condition beyond the row's.
-/
import Derived.Test.YtjfaplmojpldhaaCliWake
import Derived.Test.YtjfaplmojpldhaaCliNote
import Derived.Test.YtjfaplmojpldhaaOpen
import Derived.Test.YtjfaplmojpldhaaRows
namespace Go.Proofs.Ytjfaplmojpldhaa
open Go.RowKit Go.Lib Go.ChangeShapes Go.WideShapes Go.ChangeAt
set_option linter.unusedSimpArgs false
set_option linter.unusedVariables false
set_option maxRecDepth 100000

theorem noteB_len (e l : Int) : (noteB e l).length ≤ 27 := by
  cases h1 : okNum e with
  | false => rw [noteB_bad (.inl h1)]; simp
  | true =>
    cases h2 : okNum l with
    | false => rw [noteB_bad (.inr h2)]; simp
    | true =>
      rw [noteB_ok h1 h2]
      have a1 := okNum_iff.1 h1
      have a2 := okNum_iff.1 h2
      have b1 := numB_len e.toNat (by omega)
      have b2 := numB_len l.toNat (by omega)
      have b3 := numB_len 0 (by omega)
      simp only [List.length_append]
      omega
theorem strn_in {w : World} {b : Nat} {v : Value} (hv : Value.okWide Try.prog w .any b 9 v) (h : Op Try.prog w 9 v.cells.toList) : ∃ l : List UInt8, v = Str l ∧ l.length ≤ 140737488351232 := by
  obtain ⟨s, rfl⟩ := okWide_string Try.underlying9 hv
  obtain ⟨l, e, hl⟩ := h.str Try.underlying9
  refine ⟨l, ?_, hl⟩
  have := congrArg List.head? e
  simpa [Value.cells] using this
theorem intn_in {w : World} {b : Nat} {v : Value} (hv : Value.okWide Try.prog w .any b 3 v) (h : Op Try.prog w 3 v.cells.toList) : ∃ n : Int, v = .int .i64 n ∧ n < 9223372036854775808 := by
  obtain ⟨n, rfl⟩ := okWide_int Try.underlying3 hv
  obtain ⟨n', e1, w1⟩ := h.int Try.underlying3
  have e2 : n = n' := by
    have := congrArg List.head? e1
    simpa [Value.cells] using this
  subst e2
  exact ⟨n, rfl, by simp [Lit.wf, IntKind.min, IntKind.max, IntKind.signed, IntKind.bits] at w1; omega⟩
set_option maxHeartbeats 8000000 in
theorem notes24_any (e l : Int) (s : List UInt8) (w : World) (he : e < 9223372036854775808) (hl : l < 9223372036854775808) :
    Calls Try.prog 3 #[.int .i64 e, .int .i64 l, Str s] w fun x w' => x = .returned (.bool true) ∧ Step [] [] w w' := by
  have HB := Lib.hid (And.intro he hl)
  clear he hl
  go_enter Try.func3, Try.ntmps3
  go_wp2_with fail
  refine (awake24_true _).mono ?_
  rintro x w1 ⟨rfl, k1⟩
  have H1 := Lib.hid k1
  clear k1
  by_cases hg : (1000 : Int) < s.length
  · have hgd : decide ((1000 : Int) < s.length) = true := decide_eq_true hg
    clear hg
    go_wp2_with fail
    exact bodyPost_ret (results_tmp rfl _ _ _) rfl ⟨rfl, H1.out⟩
  · have hgd : decide ((1000 : Int) < s.length) = false := decide_eq_false hg
    have HS : Hid (s.length ≤ 1099511627776) := Lib.hid (by omega)
    clear hg
    go_wp2_with fail
    refine (note_any e l w1 HB.out.1 HB.out.2).mono ?_
    rintro x w2 ⟨rfl, k2⟩
    have H2 := Lib.hid (H1.out.trans k2)
    clear k2 H1 hgd
    go_wp2_with fail
    refine (readNote_any (noteB e l) w2 (Nat.le_trans (noteB_len e l) (by omega))).mono ?_
    rintro x w3 ⟨rfl, k3⟩
    have H3 := Lib.hid (H2.out.trans k3)
    clear k3 H2
    obtain ⟨nb, hnb⟩ : ∃ n, n = noteB e l := ⟨_, rfl⟩
    have HNB := Lib.hid hnb
    have HRN := Lib.hid (rdNote_note e l)
    rw [← hnb] at HRN ⊢
    clear hnb
    by_cases h1 : 0 ≤ e
    · have h1d : decide (0 ≤ e) = true := decide_eq_true h1
      by_cases h2 : e ≤ 255
      · have h2d : decide (e ≤ 255) = true := decide_eq_true h2
        by_cases h3 : 0 ≤ l
        · have h3d : decide (0 ≤ l) = true := decide_eq_true h3
          by_cases h4 : l ≤ 7
          · have h4d : decide (l ≤ 7) = true := decide_eq_true h4
            have HF : Hid (rdNote nb = (e, l, true)) := Lib.hid (by rw [HRN.out, if_pos (by simp [fineN]; omega)])
            rw [show rdNote nb = (e, l, true) from HF.out]
            clear HRN h1 h2 h3 h4
            go_wp2_with fail
            refine (lnote_any e l w3 HB.out.1 HB.out.2).mono ?_
            rintro x w4 ⟨rfl, k4⟩
            have H4 := Lib.hid (H3.out.trans k4)
            clear k4 H3
            rw [show noteB e l = nb from HNB.out.symm]
            go_wp2_with fail
            refine (readNote_any s w4 HS.out).mono ?_
            rintro x w5 ⟨rfl, k5⟩
            have H5 := Lib.hid (H4.out.trans k5)
            clear k5 H4
            obtain ⟨⟨r1, r2, r3⟩, hr⟩ : ∃ r, r = rdNote s := ⟨_, rfl⟩
            rw [← hr]
            have HR := Lib.hid hr.symm
            clear hr
            go_wp2_with fail
            refine (rnote_any s w5 HS.out).mono ?_
            rintro x w6 ⟨rfl, k6⟩
            have H6 := Lib.hid (H5.out.trans k6)
            clear k6 H5
            rw [show rdNote s = (r1, r2, r3) from HR.out]
            go_wp2_with fail
            exact bodyPost_ret (results_tmp rfl _ _ _) rfl ⟨rfl, H6.out⟩
          · have h4d : decide (l ≤ 7) = false := decide_eq_false h4
            have HF : Hid (rdNote nb = (0, 0, false)) := Lib.hid (by rw [HRN.out, if_neg (by simp [fineN]; omega)])
            rw [show rdNote nb = (0, 0, false) from HF.out]
            clear HRN h1 h2 h3 h4
            go_wp2_with fail
            refine (lnote_any e l w3 HB.out.1 HB.out.2).mono ?_
            rintro x w4 ⟨rfl, k4⟩
            have H4 := Lib.hid (H3.out.trans k4)
            clear k4 H3
            rw [show noteB e l = nb from HNB.out.symm]
            go_wp2_with fail
            refine (readNote_any s w4 HS.out).mono ?_
            rintro x w5 ⟨rfl, k5⟩
            have H5 := Lib.hid (H4.out.trans k5)
            clear k5 H4
            obtain ⟨⟨r1, r2, r3⟩, hr⟩ : ∃ r, r = rdNote s := ⟨_, rfl⟩
            rw [← hr]
            have HR := Lib.hid hr.symm
            clear hr
            go_wp2_with fail
            refine (rnote_any s w5 HS.out).mono ?_
            rintro x w6 ⟨rfl, k6⟩
            have H6 := Lib.hid (H5.out.trans k6)
            clear k6 H5
            rw [show rdNote s = (r1, r2, r3) from HR.out]
            go_wp2_with fail
            exact bodyPost_ret (results_tmp rfl _ _ _) rfl ⟨rfl, H6.out⟩
        · have h3d : decide (0 ≤ l) = false := decide_eq_false h3
          have HF : Hid (rdNote nb = (0, 0, false)) := Lib.hid (by rw [HRN.out, if_neg (by simp [fineN]; omega)])
          rw [show rdNote nb = (0, 0, false) from HF.out]
          clear HRN h1 h2 h3
          go_wp2_with fail
          refine (lnote_any e l w3 HB.out.1 HB.out.2).mono ?_
          rintro x w4 ⟨rfl, k4⟩
          have H4 := Lib.hid (H3.out.trans k4)
          clear k4 H3
          rw [show noteB e l = nb from HNB.out.symm]
          go_wp2_with fail
          refine (readNote_any s w4 HS.out).mono ?_
          rintro x w5 ⟨rfl, k5⟩
          have H5 := Lib.hid (H4.out.trans k5)
          clear k5 H4
          obtain ⟨⟨r1, r2, r3⟩, hr⟩ : ∃ r, r = rdNote s := ⟨_, rfl⟩
          rw [← hr]
          have HR := Lib.hid hr.symm
          clear hr
          go_wp2_with fail
          refine (rnote_any s w5 HS.out).mono ?_
          rintro x w6 ⟨rfl, k6⟩
          have H6 := Lib.hid (H5.out.trans k6)
          clear k6 H5
          rw [show rdNote s = (r1, r2, r3) from HR.out]
          go_wp2_with fail
          exact bodyPost_ret (results_tmp rfl _ _ _) rfl ⟨rfl, H6.out⟩
      · have h2d : decide (e ≤ 255) = false := decide_eq_false h2
        have HF : Hid (rdNote nb = (0, 0, false)) := Lib.hid (by rw [HRN.out, if_neg (by simp [fineN]; omega)])
        rw [show rdNote nb = (0, 0, false) from HF.out]
        clear HRN h1 h2
        go_wp2_with fail
        refine (lnote_any e l w3 HB.out.1 HB.out.2).mono ?_
        rintro x w4 ⟨rfl, k4⟩
        have H4 := Lib.hid (H3.out.trans k4)
        clear k4 H3
        rw [show noteB e l = nb from HNB.out.symm]
        go_wp2_with fail
        refine (readNote_any s w4 HS.out).mono ?_
        rintro x w5 ⟨rfl, k5⟩
        have H5 := Lib.hid (H4.out.trans k5)
        clear k5 H4
        obtain ⟨⟨r1, r2, r3⟩, hr⟩ : ∃ r, r = rdNote s := ⟨_, rfl⟩
        rw [← hr]
        have HR := Lib.hid hr.symm
        clear hr
        go_wp2_with fail
        refine (rnote_any s w5 HS.out).mono ?_
        rintro x w6 ⟨rfl, k6⟩
        have H6 := Lib.hid (H5.out.trans k6)
        clear k6 H5
        rw [show rdNote s = (r1, r2, r3) from HR.out]
        go_wp2_with fail
        exact bodyPost_ret (results_tmp rfl _ _ _) rfl ⟨rfl, H6.out⟩
    · have h1d : decide (0 ≤ e) = false := decide_eq_false h1
      have HF : Hid (rdNote nb = (0, 0, false)) := Lib.hid (by rw [HRN.out, if_neg (by simp [fineN]; omega)])
      rw [show rdNote nb = (0, 0, false) from HF.out]
      clear HRN h1
      go_wp2_with fail
      refine (lnote_any e l w3 HB.out.1 HB.out.2).mono ?_
      rintro x w4 ⟨rfl, k4⟩
      have H4 := Lib.hid (H3.out.trans k4)
      clear k4 H3
      rw [show noteB e l = nb from HNB.out.symm]
      go_wp2_with fail
      refine (readNote_any s w4 HS.out).mono ?_
      rintro x w5 ⟨rfl, k5⟩
      have H5 := Lib.hid (H4.out.trans k5)
      clear k5 H4
      obtain ⟨⟨r1, r2, r3⟩, hr⟩ : ∃ r, r = rdNote s := ⟨_, rfl⟩
      rw [← hr]
      have HR := Lib.hid hr.symm
      clear hr
      go_wp2_with fail
      refine (rnote_any s w5 HS.out).mono ?_
      rintro x w6 ⟨rfl, k6⟩
      have H6 := Lib.hid (H5.out.trans k6)
      clear k6 H5
      rw [show rdNote s = (r1, r2, r3) from HR.out]
      go_wp2_with fail
      exact bodyPost_ret (results_tmp rfl _ _ _) rfl ⟨rfl, H6.out⟩

theorem ClientNotes_walk (v0 v1 v2 : Value) (w : World) {b0 b1 b2 : Nat} (h0 : Value.okWide Try.prog w .any b0 3 v0) (o0 : Op Try.prog w 3 v0.cells.toList) (h1 : Value.okWide Try.prog w .any b1 3 v1) (o1 : Op Try.prog w 3 v1.cells.toList) (h2 : Value.okWide Try.prog w .any b2 9 v2) (o2 : Op Try.prog w 9 v2.cells.toList) :
    Calls Try.prog 3 #[v0, v1, v2] w fun e w' => e = .returned (.bool true) ∧ Below w.heap.size w w' := by
  obtain ⟨e, rfl, he⟩ := intn_in h0 o0
  obtain ⟨l, rfl, hl⟩ := intn_in h1 o1
  obtain ⟨s, rfl, hs⟩ := strn_in h2 o2
  exact (notes24_any e l s w he hl).mono fun e w' ⟨h1, h2⟩ => ⟨h1, h2.below0⟩
set_option maxRecDepth 100000 in
theorem ClientNotes_lifted (os : Os) (started : os.Started) (H : Type) (enc : TypeId × Value → H) :
    ReturnsInHanded {} Try.checked os 3 .any (Rows.clientNotesSpec.pre6 enc Try.prog Try.f3 Rows.clientNotesRow.domain false) (Rows.clientNotesSpec.post enc Try.prog Try.f3 false true false false) := by
  refine returnsInHanded_of_change_sized (C := Try.checked) (by kernel_rfl) started (by kernel_rfl) Try.func3
    (ChangeSpec.witness6 (enc := enc) (C := Try.checked) false ⟨#[], #[.int .i64 0, .int .i64 0, .string ⟨#[]⟩], []⟩ 8 (by kernel_rfl) (by kernel_rfl) (by kernel_rfl) (by kernel_rfl)) ?_
  intro W base args ds gs before hval0 hW hcnd hsz0 _
  have hval : ∀ (j : Nat) t v, Try.f3.params[j]? = some t → args[j]? = some v → Value.okWide Try.prog W .any base t v := hval0
  have hsz : (DataW.weightsEach Try.prog (Try.f3.params.toList ++ Rows.clientNotesSpec.plain.varTypes Try.prog) (ds ++ gs)).all (· ≤ reachBytes) = true := hsz0
  have hW' := hW
  obtain ⟨p, q, hA0, hV, rfl, hfz, hnd⟩ := hW
  have hA : DataW.TrodAll enc Try.prog W 0 (fun _ => true) true Try.f3.params.toList args.toList ds p := hA0
  rw [Try.params3] at hA hval hsz
  obtain ⟨v0, vs0, d0, ds0, p0, q0, hargs, rfl, rfl, h0, r0⟩ := trodAll_cons hA
  obtain ⟨v1, vs1, d1, ds1, p1, q1, rfl, rfl, rfl, h1, r1⟩ := trodAll_cons r0
  obtain ⟨v2, vs2, d2, ds2, p2, q2, rfl, rfl, rfl, h2, r2⟩ := trodAll_cons r1
  obtain ⟨rfl, rfl, rfl⟩ := trodAll_nil r2
  obtain rfl : args = #[v0, v1, v2] := by cases args; simp_all
  obtain ⟨rfl, rfl⟩ := trodVars_none hV
  have lt0 : ∀ x ∈ p0, x.block < W.heap.size := by obtain ⟨m, hm⟩ := h0; exact DataW.trod_lt m _ _ _ hm
  have o0 := op_of hsz (j := 0) rfl rfl h0
  have lt1 : ∀ x ∈ p1, x.block < W.heap.size := by obtain ⟨m, hm⟩ := h1; exact DataW.trod_lt m _ _ _ hm
  have o1 := op_of hsz (j := 1) rfl rfl h1
  have lt2 : ∀ x ∈ p2, x.block < W.heap.size := by obtain ⟨m, hm⟩ := h2; exact DataW.trod_lt m _ _ _ hm
  have o2 := op_of hsz (j := 2) rfl rfl h2
  refine (ClientNotes_walk v0 v1 v2 W (hval 0 _ v0 rfl rfl) o0 (hval 1 _ v1 rfl rfl) o1 (hval 2 _ v2 rfl rfl) o2).mono fun e W' ⟨he, bel⟩ => ?_
  subst he
  exact ⟨_, rfl, _, _, _, [], _, [], hW', trodAll_mk1 (shut_bool Try.underlying4 _), (trodAll_cons_mk (Below.trod (by kernel_rfl) (by kernel_rfl) (of_decide_eq_true (by kernel_rfl)) h0 bel lt0) (trodAll_cons_mk (Below.trod (by kernel_rfl) (by kernel_rfl) (of_decide_eq_true (by kernel_rfl)) h1 bel lt1) (trodAll_cons_mk (Below.trod (by kernel_rfl) (by kernel_rfl) (of_decide_eq_true (by kernel_rfl)) h2 bel lt2) trodAll_mk0))), rfl, bel.frame _, fun h => by cases h⟩

/-- The statement. -/
theorem ClientNotes_holds : Rows.ClientNotesSaid :=
  OpenClaim.holds_of_wide 3 Try.f3 rfl rfl rfl rfl rfl rfl rfl ⟨rfl, rfl, rfl, rfl, rfl⟩ rfl rfl rfl rfl rfl (by kernel_rfl) Try.func3 (by kernel_rfl)
    (of_decide_eq_true (by kernel_rfl)) (by unfold Func.isWrapper; rw [if_neg (of_decide_eq_false (by kernel_rfl))]; exact ⟨rfl, rfl⟩)
    (fun os started H enc _ => ClientNotes_lifted os started H enc)
#print axioms ClientNotes_holds
end Go.Proofs.Ytjfaplmojpldhaa
