/-
  MsgCuts: a message's bytes without their end, or with more behind them, are no message's. No condition beyond the row's.
-/
import Derived.Test.YtihklmomipidaaaMsgL
import Derived.Test.YtihklmomipidaaaRows
namespace Go.Proofs.Ytihklmomipidaaa
open Go.RowKit Go.Lib Go.ChangeShapes Go.WideShapes Go.ChangeAt
set_option linter.unusedSimpArgs false
set_option linter.unusedVariables false
set_option maxRecDepth 100000

theorem dec_cut (x : Rw) (hk : isKind x.kind = true) (hc : cleanL x = x) (hr : rightR x = true) (k : Nat) (h : k < (msgB x).length) : decL ((msgB x).take k) = none := by
  unfold decL
  split
  · rename_i hh
    obtain ⟨h1, h2⟩ := hh
    exfalso
    have hz := rend_zero h2
    obtain ⟨g1, g2, g3⟩ := read_was ((msgB x).take k) [] (readM ⟨(msgB x).take k, false⟩).1 (by rw [← hz]) h1
    rw [List.append_nil] at g1
    have b1 := read_back (readM ⟨(msgB x).take k, false⟩).1 ((msgB x).drop k) h1 g3 g2
    have b2 := read_back x [] hk hc hr
    rw [← g1, List.take_append_drop] at b1
    rw [List.append_nil, b1] at b2
    injection b2 with _ b3
    injection b3 with b4 _
    have := congrArg List.length b4
    simp at this
    omega
  · rfl
theorem dec_long (x : Rw) (hk : isKind x.kind = true) (hc : cleanL x = x) (hr : rightR x = true) (more : List UInt8) (h : more ≠ []) : decL (msgB x ++ more) = none := by
  unfold decL
  rw [read_back x more hk hc hr]
  split
  · rename_i hh
    have := rend_zero hh.2
    injection this with h1 _
    exact absurd h1 h
  · rfl
theorem msgB_pos (x : Rw) : 0 < (msgB x).length := by
  rw [msgB, msgIts, List.map_append, List.flatten_append, List.length_append]
  simp only [List.map_cons, List.flatten_cons, List.length_append, nIt_B]
  have : 0 < (numB x.kind.toNat).length := by simp [numB]
  omega
set_option maxHeartbeats 4000000 in
theorem cuts10_any (x : Rw) (a : Option Addr) (cap : Nat) (n : Nat) (more : List UInt8) (w : World) (hr : Rd w 3 a x.es.length (entcs x.es)) (hl : x.es.length ≤ 4398046511104) (hd : x.data.length ≤ 140737488351232) (hn : n < 65536) (hm : more.length ≤ 140737488351232) :
    Calls Try.prog 6 #[rwV x (.slice a x.es.length cap), .int .u16 n, Str more] w fun e w' => e = .returned (.bool true) ∧ Step [] [] w w' := by
  have H0 : Hid (Rd (w.alloc (.cells (rwc x (.slice a x.es.length cap)).toArray 24)) 3 a x.es.length (entcs x.es) ∧ Step [] [] w (w.alloc (.cells (rwc x (.slice a x.es.length cap)).toArray 24)) ∧ Blk (w.alloc (.cells (rwc x (.slice a x.es.length cap)).toArray 24)) w.heap.size 24 (rwc x (.slice a x.es.length cap)).toArray) := ⟨hr.alloc _, (Step.refl [] w).alloc _, Blk.new w _ _⟩
  have HL0 := Lib.hid (And.intro hl (And.intro (clean_len x) hd))
  clear hr hl hd
  go_enter Try.func6, Try.ntmps6
  go_wp2_with fail
  refine (awake10_true _).mono ?_
  rintro e w1 ⟨rfl, k1⟩
  obtain ⟨b, hb⟩ : ∃ b, b = w.heap.size := ⟨_, rfl⟩
  have H1 : Hid (Rd w1 3 a x.es.length (entcs x.es) ∧ Step [] [] w w1 ∧ Blk w1 b 24 (rwc x (.slice a x.es.length cap)).toArray) := by
    rw [hb]
    exact ⟨H0.out.1.step0 k1, H0.out.2.1.trans k1, H0.out.2.2.step k1 (by simp)⟩
  rw [← hb]
  clear k1 hb H0
  have ra := H1.out.2.2.rw
  have rl := H1.out.2.2.lt
  cases hik : isKind x.kind with
  | false =>
    have HK := Lib.hid hik
    clear hik
    go_wp2_with fail
    refine (of_none x a cap w1 HK.out).mono ?_
    rintro e w2 ⟨rfl, k2⟩
    have H2 : Hid (Rd w2 3 a x.es.length (entcs x.es) ∧ Step [] [] w w2 ∧ Blk w2 b 24 (rwc x (.slice a x.es.length cap)).toArray) := ⟨H1.out.1.step0 k2, H1.out.2.1.trans k2, H1.out.2.2.step k2 (by simp)⟩
    clear ra rl k2 H1
    have ra := H2.out.2.2.rw
    have rl := H2.out.2.2.lt
    go_wp2_with fail
    refine (great10_any x a cap w2 H2.out.1 HL0.out.1 HL0.out.2.2).mono ?_
    rintro e w3 ⟨rfl, k3⟩
    have H3 := Lib.hid (H2.out.2.1.trans k3)
    clear ra rl k3 H2
    cases hg : greatM x with
    | true =>
      go_wp2_with fail
      exact bodyPost_ret (results_tmp rfl _ _ _) rfl ⟨rfl, H3.out⟩
    | false =>
      go_wp2_with fail
      exact bodyPost_ret (results_tmp rfl _ _ _) rfl ⟨rfl, H3.out⟩
  | true =>
    have HK := Lib.hid hik
    clear hik
    go_wp2_with fail
    refine (of_any x a cap w1 HK.out H1.out.1 HL0.out.1).mono ?_
    rintro e w2 ⟨m, rfl, hmm, k2⟩
    have H2 : Hid (Rd w2 3 a x.es.length (entcs x.es) ∧ Step [] [] w w2 ∧ Blk w2 b 24 (rwc x (.slice a x.es.length cap)).toArray ∧ IsMsg w2 (cleanL x) m) := ⟨H1.out.1.step0 k2, H1.out.2.1.trans k2, H1.out.2.2.step k2 (by simp), hmm⟩
    clear ra rl k2 H1 hmm
    have ra := H2.out.2.2.1.rw
    have rl := H2.out.2.2.1.lt
    go_wp2_with fail
    refine (great10_any x a cap w2 H2.out.1 HL0.out.1 HL0.out.2.2).mono ?_
    rintro e w3 ⟨rfl, k3⟩
    have H3 : Hid (Step [] [] w w3 ∧ IsMsg w3 (cleanL x) m) := ⟨H2.out.2.1.trans k3, H2.out.2.2.2.step k3⟩
    clear ra rl k3 H2
    cases hg : greatM x with
    | true =>
      go_wp2_with fail
      exact bodyPost_ret (results_tmp rfl _ _ _) rfl ⟨rfl, H3.out.1⟩
    | false =>
      have HG : Hid ((cleanL x).data.length ≤ 1100000) := by
        have h1 := (greatM_len hg).1
        have h2 := clean_data x
        exact Lib.hid (by omega)
      clear hg
      by_cases h1000 : (1000 : Int) < more.length
      · have hd1 : decide ((1000 : Int) < more.length) = true := decide_eq_true h1000
        clear h1000
        go_wp2_with fail
        exact bodyPost_ret (results_tmp rfl _ _ _) rfl ⟨rfl, H3.out.1⟩
      · have hd1 : decide ((1000 : Int) < more.length) = false := decide_eq_false h1000
        have HM1 : Hid (more.length ≤ 1000) := Lib.hid (by omega)
        clear h1000
        obtain ⟨y, hy⟩ : ∃ y, y = cleanL x := ⟨_, rfl⟩
        have HCL : Hid (cleanL y = y ∧ isKind y.kind = true) := by
          rw [hy]
          exact ⟨(clean_clean x HK.out).1, by rw [(clean_clean x HK.out).2]; exact HK.out⟩
        rw [← hy] at H3 HG
        clear hy
        go_wp2_with fail
        refine (encode_any H3.out.2 (by have := HG.out; omega)).mono ?_
        rintro e w4 ⟨rfl, k4⟩
        have H4 := Lib.hid (H3.out.1.trans k4)
        clear k4 H3 hd1
        cases hrr : rightR y with
        | false =>
          have HE : Hid (encL y = ([], 1)) := Lib.hid (by simp [encL, hrr])
          rw [HE.out]
          clear hrr
          go_wp2_with fail
          exact bodyPost_ret (results_tmp rfl _ _ _) rfl ⟨rfl, H4.out⟩
        | true =>
          have HR := Lib.hid hrr
          rw [encL_ok y HCL.out.2 hrr]
          clear hrr
          obtain ⟨s, hs⟩ : ∃ s, s = msgB y := ⟨_, rfl⟩
          rw [← hs]
          have HS : Hid (s = msgB y ∧ s.length ≤ 2097152) := ⟨hs, by rw [hs]; exact (its_ok y HCL.out.2 HR.out).2⟩
          have hpos : 0 < s.length := by rw [hs]; exact msgB_pos y
          have hsl := HS.out.2
          clear hs
          have q1 : IntKind.i64.wrap (n : Int) = n := IntWalk.i64_in _ (by omega)
          have q2 : (n : Int).tmod (s.length : Int) = ((n % s.length : Nat) : Int) := rfl
          have q3 : n % s.length < s.length := Nat.mod_lt _ hpos
          have q4 : ((s.length : Int) == 0) = false := by rw [beq_eq_false_iff_ne]; omega
          obtain ⟨k, hk⟩ : ∃ k, k = n % s.length := ⟨_, rfl⟩
          rw [← hk] at q2 q3
          clear hk
          have q5 : IntKind.i64.wrap (k : Int) = k := IntWalk.i64_in _ (by omega)
          go_wp2_with fail
          refine (decode_any (s.take k) w4 (by rw [List.length_take]; omega)).mono ?_
          rintro e w5 ⟨h5, k5⟩
          rw [show decL (s.take k) = none by rw [HS.out.1]; exact dec_cut y HCL.out.2 HCL.out.1 HR.out k (by rw [← HS.out.1]; exact q3)] at h5
          rcases h5 with ⟨r, m5, h5, _⟩ | ⟨_, rfl⟩
          · cases h5
          have H5 := Lib.hid (H4.out.trans k5)
          clear k5 H4 q1 q2 q3 q4 q5
          have hml := HM1.out
          have q6 : s.length + more.length ≤ 9223372036854775807 := by omega
          go_wp2_with fail
          refine (decode_any (s ++ more) w5 (by rw [List.length_append]; omega)).mono ?_
          rintro e w6 ⟨h6, k6⟩
          have H6 := Lib.hid (H5.out.trans k6)
          clear k6 H5 q6
          by_cases hmn : more = []
          · rw [hmn, List.append_nil, HS.out.1, dec_enc y HCL.out.2 HCL.out.1 HR.out] at h6
            rcases h6 with ⟨r, m6, h6, rfl, _⟩ | ⟨h6, _⟩
            · have hmb : (more == []) = true := by simp [hmn]
              clear h6 hmn
              go_wp2_with fail
              exact bodyPost_ret (results_tmp rfl _ _ _) rfl ⟨rfl, H6.out⟩
            · cases h6
          · have hmb : (more == []) = false := by simpa using hmn
            rw [HS.out.1, dec_long y HCL.out.2 HCL.out.1 HR.out more hmn] at h6
            rcases h6 with ⟨r, m6, h6, _⟩ | ⟨_, rfl⟩
            · cases h6
            · clear hmn
              go_wp2_with fail
              exact bodyPost_ret (results_tmp rfl _ _ _) rfl ⟨rfl, H6.out⟩

theorem MsgCuts_walk (v0 v1 v2 : Value) (w : World) {b0 b1 b2 : Nat} (h0 : Value.okWide Try.prog w .any b0 24 v0) (o0 : Op Try.prog w 24 v0.cells.toList) (h1 : Value.okWide Try.prog w .any b1 44 v1) (o1 : Op Try.prog w 44 v1.cells.toList) (h2 : Value.okWide Try.prog w .any b2 9 v2) (o2 : Op Try.prog w 9 v2.cells.toList) :
    Calls Try.prog 6 #[v0, v1, v2] w fun e w' => e = .returned (.bool true) ∧ Below w.heap.size w w' := by
  obtain ⟨x, a, cap, rfl, hr, hl, hd⟩ := raw_in h0 o0
  obtain ⟨n, rfl⟩ := okWide_int Try.underlying44 h1
  obtain ⟨n', e1, w1⟩ := o1.int Try.underlying44
  obtain ⟨s, rfl, hs⟩ := str_in h2 o2
  have e2 : n = n' := by
    have := congrArg List.head? e1
    simpa [Value.cells] using this
  subst e2
  have hb : 0 ≤ n ∧ n < 65536 := by
    simp [Lit.wf, IntKind.min, IntKind.max, IntKind.signed, IntKind.bits] at w1
    omega
  obtain ⟨k, rfl⟩ : ∃ k : Nat, n = k := ⟨n.toNat, by omega⟩
  exact (cuts10_any x a cap k s w hr hl hd (by omega) hs).mono fun e w' ⟨h1, h2⟩ => ⟨h1, h2.below0⟩
set_option maxRecDepth 100000 in
theorem MsgCuts_lifted (os : Os) (started : os.Started) (H : Type) (enc : TypeId × Value → H) :
    ReturnsInHanded {} Try.checked os 6 .any (Rows.msgCutsSpec.pre6 enc Try.prog Try.f6 Rows.msgCutsRow.domain false) (Rows.msgCutsSpec.post enc Try.prog Try.f6 false true false false) := by
  refine returnsInHanded_of_change_sized (C := Try.checked) (by kernel_rfl) started (by kernel_rfl) Try.func6
    (ChangeSpec.witness6 (enc := enc) (C := Try.checked) false ⟨#[], #[.agg #[.int .i64 0, .int .i64 0, .int .i64 0, .int .i64 0, .int .i64 0, .int .i64 0, .int .i64 0, .bool false, .slice none 0 0, .string ⟨#[]⟩], .int .u16 0, .string ⟨#[]⟩], []⟩ 8 (by kernel_rfl) (by kernel_rfl) (by kernel_rfl) (by kernel_rfl)) ?_
  intro W base args ds gs before hval0 hW hcnd hsz0 _
  have hval : ∀ (j : Nat) t v, Try.f6.params[j]? = some t → args[j]? = some v → Value.okWide Try.prog W .any base t v := hval0
  have hsz : (DataW.weightsEach Try.prog (Try.f6.params.toList ++ Rows.msgCutsSpec.plain.varTypes Try.prog) (ds ++ gs)).all (· ≤ reachBytes) = true := hsz0
  have hW' := hW
  obtain ⟨p, q, hA0, hV, rfl, hfz, hnd⟩ := hW
  have hA : DataW.TrodAll enc Try.prog W 0 (fun _ => true) true Try.f6.params.toList args.toList ds p := hA0
  rw [Try.params6] at hA hval hsz
  obtain ⟨v0, vs0, d0, ds0, p0, q0, hargs, rfl, rfl, h0, r0⟩ := trodAll_cons hA
  obtain ⟨v1, vs1, d1, ds1, p1, q1, rfl, rfl, rfl, h1, r1⟩ := trodAll_cons r0
  obtain ⟨v2, vs2, d2, ds2, p2, q2, rfl, rfl, rfl, h2, r2⟩ := trodAll_cons r1
  obtain ⟨rfl, rfl, rfl⟩ := trodAll_nil r2
  obtain rfl : args = #[v0, v1, v2] := by cases args; simp_all
  obtain ⟨rfl, rfl⟩ := trodVars_none hV
  have lt0 : ∀ x ∈ p0, x.block < W.heap.size := by obtain ⟨m, hm⟩ := h0; exact DataW.trod_lt m _ _ _ hm
  have o0 := op_of hsz (j := 0) rfl rfl h0
  have lt1 : ∀ x ∈ p1, x.block < W.heap.size := by obtain ⟨m, hm⟩ := h1; exact DataW.trod_lt m _ _ _ hm
  have o1 := op_of hsz (j := 1) rfl rfl h1
  have lt2 : ∀ x ∈ p2, x.block < W.heap.size := by obtain ⟨m, hm⟩ := h2; exact DataW.trod_lt m _ _ _ hm
  have o2 := op_of hsz (j := 2) rfl rfl h2
  refine (MsgCuts_walk v0 v1 v2 W (hval 0 _ v0 rfl rfl) o0 (hval 1 _ v1 rfl rfl) o1 (hval 2 _ v2 rfl rfl) o2).mono fun e W' ⟨he, bel⟩ => ?_
  subst he
  exact ⟨_, rfl, _, _, _, [], _, [], hW', trodAll_mk1 (shut_bool Try.underlying4 _), (trodAll_cons_mk (Below.trod (by kernel_rfl) (by kernel_rfl) (of_decide_eq_true (by kernel_rfl)) h0 bel lt0) (trodAll_cons_mk (Below.trod (by kernel_rfl) (by kernel_rfl) (of_decide_eq_true (by kernel_rfl)) h1 bel lt1) (trodAll_cons_mk (Below.trod (by kernel_rfl) (by kernel_rfl) (of_decide_eq_true (by kernel_rfl)) h2 bel lt2) trodAll_mk0))), rfl, bel.frame _, fun h => by cases h⟩

/-- The statement. -/
theorem MsgCuts_holds : Rows.MsgCutsSaid :=
  OpenClaim.holds_of_wide 6 Try.f6 rfl rfl rfl rfl rfl rfl rfl ⟨rfl, rfl, rfl, rfl, rfl⟩ rfl rfl rfl rfl rfl (by kernel_rfl) Try.func6 (by kernel_rfl)
    (of_decide_eq_true (by kernel_rfl)) (by unfold Func.isWrapper; rw [if_neg (of_decide_eq_false (by kernel_rfl))]; exact ⟨rfl, rfl⟩)
    (fun os started H enc _ => MsgCuts_lifted os started H enc)
#print axioms MsgCuts_holds
end Go.Proofs.Ytihklmomipidaaa
