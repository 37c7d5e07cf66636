/-
 ClientNone: a client that isn't there asks nothing. No condition beyond the row's.
-/
import Derived.Test.YtjfaplmojpldhaaZGA
import Derived.Test.YtjfaplmojpldhaaZCliGreat
import Derived.Test.YtjfaplmojpldhaaRows
namespace Go.Proofs.Ytjfaplmojpldhaa
open Go.RowKit Go.Lib Go.ChangeShapes Go.WideShapes Go.ChangeAt
set_option linter.unusedSimpArgs false
set_option linter.unusedVariables false
set_option maxRecDepth 100000

theorem wpList_loadRowG {P : Program} {w : World} {o : Oper} {ac : Act} {Q : Exit → Act → World → Prop} {b : Nat} {T T' : TypeId} {cs : Array Value} {ops : Array Oper} {rest : List Oper} (hw : Region.wanted o (yielded ops ac.tmps) = true) (p : Operand) (ho : o.op = .load T p) (hp : ac.eval p = .pointer (some ⟨b, 0, none⟩)) (hT : StructOf P T cs.size) (h : Blk w b T' cs)
  (k : wpList P ops Q rest (ac.put o.dst (.agg cs)) w) : wpList P ops Q (o :: rest) ac w := by
 rw [wpList, if_pos hw]
 exact .inl (wp_loadRow p ho hp hT h k)
theorem nil_ask (x : Cm) (s1 s2 s3 : Value) (w : World) : Calls Try.prog 14 #[.pointer none, cmV x s1 s2 s3] w fun e w' => e = .returned (.tuple #[.string ⟨#[]⟩, .int .i64 1]) ∧ Step [] [] w w' := by
 go_enter Try.func14, Try.ntmps14
 go_wp2_with fail
 refine bodyPost_ret (v := .tuple #[.string ⟨#[]⟩, .int .i64 1]) ?_ rfl ⟨rfl, (Step.refl [] w).alloc _⟩
 simp [results, Try.results14, go_sem]
theorem nil_tick (w : World) : Calls Try.prog 16 #[.pointer none] w fun e w' => e = .returned (.tuple #[.int .i64 0, .string ⟨#[]⟩, .bool false]) ∧ w = w' := by
 go_enter Try.func16, Try.ntmps16
 go_wp2_with fail
 refine bodyPost_ret (v := .tuple #[.int .i64 0, .string ⟨#[]⟩, .bool false]) ?_ rfl ⟨rfl, rfl⟩
 simp [results, Try.results16, go_sem]
theorem nil_open (w : World) : Calls Try.prog 21 #[.pointer none] w fun e w' => e = .returned (.tuple #[.string ⟨#[]⟩, .bool false]) ∧ w = w' := by
 go_enter Try.func21, Try.ntmps21
 go_wp2_with fail
 refine bodyPost_ret (v := .tuple #[.string ⟨#[]⟩, .bool false]) ?_ rfl ⟨rfl, rfl⟩
 simp [results, Try.results21, go_sem]
theorem nil_hear (t : List UInt8) (w : World) : Calls Try.prog 15 #[.pointer none, Str t] w fun e w' => e = .returned (.bool false) ∧ w = w' := by
 go_enter Try.func15, Try.ntmps15
 go_wp2_with fail
 refine bodyPost_ret (v := .bool false) ?_ rfl ⟨rfl, rfl⟩
 simp [results, Try.results15, go_sem]
theorem nil_seq (w : World) : Calls Try.prog 18 #[.pointer none] w fun e w' => e = .returned (.int .i64 0) ∧ w = w' := by
 go_enter Try.func18, Try.ntmps18
 go_wp2_with fail
 refine bodyPost_ret (v := .int .i64 0) ?_ rfl ⟨rfl, rfl⟩
 simp [results, Try.results18, go_sem]
theorem nil_token (w : World) : Calls Try.prog 27 #[.pointer none] w fun e w' => e = .returned (.string ⟨#[]⟩) ∧ w = w' := by
 go_enter Try.func27, Try.ntmps27
 go_wp2_with fail
 refine bodyPost_ret (v := .string ⟨#[]⟩) ?_ rfl ⟨rfl, rfl⟩
 simp [results, Try.results27, go_sem]
theorem nil_target (w : World) : Calls Try.prog 28 #[.pointer none] w fun e w' => e = .returned (.int .i64 0) ∧ w = w' := by
 go_enter Try.func28, Try.ntmps28
 go_wp2_with fail
 refine bodyPost_ret (v := .int .i64 0) ?_ rfl ⟨rfl, rfl⟩
 simp [results, Try.results28, go_sem]
theorem nil_answer (w : World) : Calls Try.prog 29 #[.pointer none] w fun e w' => e = .returned (.agg #[.int .i64 0, .int .i64 0, .int .i64 0, .int .i64 0, .bool false, .slice none 0 0, .string ⟨#[]⟩]) ∧ Step [] [] w w' := by
 go_enter Try.func29, Try.ntmps29
 go_wp2_with fail
 refine bodyPost_ret (v := .agg #[.int .i64 0, .int .i64 0, .int .i64 0, .int .i64 0, .bool false, .slice none 0 0, .string ⟨#[]⟩]) ?_ rfl ⟨rfl, (Step.refl [] w).alloc _⟩
 simp [results, Try.results29, go_sem]
set_option maxHeartbeats 8000000 in
theorem none24_any (x : Oq) (w : World) (hr : RdQ w x) (hB : OqB x) : Calls Try.prog 7 #[oqV x] w fun e w' => e = .returned (.bool true) ∧ Step [] [] w w' := by
 have H00 : Hid (Blk (w.alloc (.cells (oqc x).toArray 56)) w.heap.size 56 (oqc x).toArray ∧ Step [] [] w (w.alloc (.cells (oqc x).toArray 56)) ∧ RdQ (w.alloc (.cells (oqc x).toArray 56)) x) := Lib.hid ⟨Blk.new w _ _, (Step.refl [] w).alloc _, hr.step ((Step.refl [] w).alloc _)⟩
 have HQ := Lib.hid hB
 clear hr hB
 go_enter Try.func7, Try.ntmps7
 go_upto_region 1 with fail
 change Code.wp _ _ _ _ (w.alloc (.cells (oqc x).toArray 56))
 obtain ⟨b, hb⟩ : ∃ b, b = w.heap.size := ⟨_, rfl⟩
 obtain ⟨V, hV⟩ : ∃ V, V = (w.alloc (.cells (oqc x).toArray 56)) := ⟨_, rfl⟩
 rw [← hV, ← hb] at H00
 have H0 := H00
 rw [← hV]
 try rw [← hb]
 clear hV hb H00
 go_wp2_with fail
 refine (awake24_true V).mono ?_
 rintro e w1 ⟨rfl, k1⟩
 have H1 : Hid (Blk w1 b 56 (oqc x).toArray ∧ Step [] [] w w1 ∧ RdQ w1 x) := Lib.hid ⟨H0.out.1.step k1 (by simp), H0.out.2.1.trans k1, H0.out.2.2.step k1⟩
 clear k1 H0
 go_wp2_with (refine wpList_loadRow (T := 56) (b := b) (T' := 56) (cs := #[.int .i64 x.k, .int .i64 x.cmd.client, .int .i64 x.cmd.seq, Str x.cmd.token, .int .i64 x.cmd.kind, Str x.cmd.name, Str x.cmd.other, Str x.cmd.word, Str x.cmd.salt, .int .i64 x.cmd.bytes, .int .i64 x.cmd.keys, Str x.cmd.gf, Str x.cmd.gt, .bool x.cmd.gr, .bool x.cmd.gw, .int .i64 x.cmd.rev, .slice x.a1 x.cmd.ifs.length x.c1, .slice x.a2 x.cmd.thens.length x.c2, .slice x.a3 x.cmd.elses.length x.c3, Str x.text, .int .i64 x.ans.client, .int .i64 x.ans.seq, .int .i64 x.ans.err, .int .i64 x.ans.rev, .bool x.ans.yes, .slice x.a x.m.length x.c, Str x.ans.token, .int .i64 x.err, .int .i64 x.lead]) rfl (.tmp 1) rfl rfl Try.sOq H1.out.1 ?_)
 obtain ⟨gb, hgb⟩ : ∃ b, b = w1.heap.size := ⟨_, rfl⟩
 obtain ⟨V2, hV2⟩ : ∃ V, V = w1.alloc (.cells #[.int .i64 x.k, .int .i64 x.cmd.client, .int .i64 x.cmd.seq, Str x.cmd.token, .int .i64 x.cmd.kind, Str x.cmd.name, Str x.cmd.other, Str x.cmd.word, Str x.cmd.salt, .int .i64 x.cmd.bytes, .int .i64 x.cmd.keys, Str x.cmd.gf, Str x.cmd.gt, .bool x.cmd.gr, .bool x.cmd.gw, .int .i64 x.cmd.rev, .slice x.a1 x.cmd.ifs.length x.c1, .slice x.a2 x.cmd.thens.length x.c2, .slice x.a3 x.cmd.elses.length x.c3, Str x.text, .int .i64 x.ans.client, .int .i64 x.ans.seq, .int .i64 x.ans.err, .int .i64 x.ans.rev, .bool x.ans.yes, .slice x.a x.m.length x.c, Str x.ans.token, .int .i64 x.err, .int .i64 x.lead] 56) := ⟨_, rfl⟩
 have k2 : Step [] [] w1 V2 := by rw [hV2]; exact (Step.refl [] w1).alloc _
 have g2 : Rd V2 29 (some ⟨gb, 0, none⟩) 1 ([x].flatMap oqc) := by rw [hV2, hgb]; exact rd_blk' (xs := [x].flatMap oqc) (by rw [show [x].flatMap oqc = oqc x by simp]; exact (show Blk (w1.alloc (.cells #[.int .i64 x.k, .int .i64 x.cmd.client, .int .i64 x.cmd.seq, Str x.cmd.token, .int .i64 x.cmd.kind, Str x.cmd.name, Str x.cmd.other, Str x.cmd.word, Str x.cmd.salt, .int .i64 x.cmd.bytes, .int .i64 x.cmd.keys, Str x.cmd.gf, Str x.cmd.gt, .bool x.cmd.gr, .bool x.cmd.gw, .int .i64 x.cmd.rev, .slice x.a1 x.cmd.ifs.length x.c1, .slice x.a2 x.cmd.thens.length x.c2, .slice x.a3 x.cmd.elses.length x.c3, Str x.text, .int .i64 x.ans.client, .int .i64 x.ans.seq, .int .i64 x.ans.err, .int .i64 x.ans.rev, .bool x.ans.yes, .slice x.a x.m.length x.c, Str x.ans.token, .int .i64 x.err, .int .i64 x.lead] 56)) w1.heap.size 56 (oqc x).toArray from Blk.new w1 56 (oqc x).toArray)) 29 1 rfl
 have H2 : Hid (Blk V2 b 56 (oqc x).toArray ∧ Step [] [] w V2 ∧ RdQ V2 x ∧ Rd V2 29 (some ⟨gb, 0, none⟩) 1 ([x].flatMap oqc)) := Lib.hid ⟨H1.out.1.step k2 (by simp), H1.out.2.1.trans k2, H1.out.2.2.step k2, g2⟩
 rw [← hV2, ← hgb]
 clear k2 g2 hV2 hgb H1
 refine (greatQ_any [x] (some ⟨gb, 0, none⟩) 1 V2 H2.out.2.2.2 (by intro y hy; rw [List.mem_singleton.1 hy]; exact H2.out.2.2.1) (by simp)).mono ?_
 rintro e w3 ⟨g, rfl, hg, k3⟩
 have H3 : Hid (Blk w3 b 56 (oqc x).toArray ∧ Step [] [] w w3 ∧ RdQ w3 x) := Lib.hid ⟨H2.out.1.step k3 (by simp), H2.out.2.1.trans k3, H2.out.2.2.1.step k3⟩
 clear k3 H2
 cases g with
 | true =>
  clear hg
  go_wp2_with fail
  exact bodyPost_ret (results_tmp rfl _ _ _) rfl ⟨rfl, H3.out.2.1⟩
 | false =>
  have HS := Lib.hid ((hg rfl).2 x (by simp))
  clear hg
  go_upto_region 6 with fail
  have HRM := Lib.hid (range_blk H3.out.1 1 [.int .i64 x.cmd.client, .int .i64 x.cmd.seq, Str x.cmd.token, .int .i64 x.cmd.kind, Str x.cmd.name, Str x.cmd.other, Str x.cmd.word, Str x.cmd.salt, .int .i64 x.cmd.bytes, .int .i64 x.cmd.keys, Str x.cmd.gf, Str x.cmd.gt, .bool x.cmd.gr, .bool x.cmd.gw, .int .i64 x.cmd.rev, .slice x.a1 x.cmd.ifs.length x.c1, .slice x.a2 x.cmd.thens.length x.c2, .slice x.a3 x.cmd.elses.length x.c3] rfl)
  go_wp2_with (refine wpList_load_mid rfl 44 (.tmp 18) rfl b 1 rfl [.int .i64 x.cmd.client, .int .i64 x.cmd.seq, Str x.cmd.token, .int .i64 x.cmd.kind, Str x.cmd.name, Str x.cmd.other, Str x.cmd.word, Str x.cmd.salt, .int .i64 x.cmd.bytes, .int .i64 x.cmd.keys, Str x.cmd.gf, Str x.cmd.gt, .bool x.cmd.gr, .bool x.cmd.gw, .int .i64 x.cmd.rev, .slice x.a1 x.cmd.ifs.length x.c1, .slice x.a2 x.cmd.thens.length x.c2, .slice x.a3 x.cmd.elses.length x.c3] _ HRM.out Try.underlying44 rfl (by kernel_rfl) ?_)
  clear HRM
  refine (nil_ask x.cmd _ _ _ w3).mono ?_
  rintro e w4 ⟨rfl, k4⟩
  have H4 : Hid (Blk w4 b 56 (oqc x).toArray ∧ Step [] [] w w4 ∧ RdQ w4 x) := Lib.hid ⟨H3.out.1.step k4 (by simp), H3.out.2.1.trans k4, H3.out.2.2.step k4⟩
  clear k4 H3
  go_wp2_with fail
  refine (nil_tick w4).mono ?_
  rintro e w5 ⟨rfl, rfl⟩
  go_wp2_with fail
  refine (nil_open w4).mono ?_
  rintro e w5 ⟨rfl, rfl⟩
  go_wp2_with (refine wpList_loadRowG (T := 56) (b := b) (T' := 56) (cs := #[.int .i64 x.k, .int .i64 x.cmd.client, .int .i64 x.cmd.seq, Str x.cmd.token, .int .i64 x.cmd.kind, Str x.cmd.name, Str x.cmd.other, Str x.cmd.word, Str x.cmd.salt, .int .i64 x.cmd.bytes, .int .i64 x.cmd.keys, Str x.cmd.gf, Str x.cmd.gt, .bool x.cmd.gr, .bool x.cmd.gw, .int .i64 x.cmd.rev, .slice x.a1 x.cmd.ifs.length x.c1, .slice x.a2 x.cmd.thens.length x.c2, .slice x.a3 x.cmd.elses.length x.c3, Str x.text, .int .i64 x.ans.client, .int .i64 x.ans.seq, .int .i64 x.ans.err, .int .i64 x.ans.rev, .bool x.ans.yes, .slice x.a x.m.length x.c, Str x.ans.token, .int .i64 x.err, .int .i64 x.lead]) rfl (.tmp 1) rfl rfl Try.sOq H4.out.1 ?_)
  refine (heard_any x w4 H4.out.2.2 HQ.out HS.out).mono ?_
  rintro e w5 ⟨rfl, k5⟩
  have H5 : Hid (Blk w5 b 56 (oqc x).toArray ∧ Step [] [] w w5 ∧ RdQ w5 x) := Lib.hid ⟨H4.out.1.step k5 (by simp), H4.out.2.1.trans k5, H4.out.2.2.step k5⟩
  clear k5 H4
  go_wp2_with fail
  refine (nil_hear (heardC x) w5).mono ?_
  rintro e w6 ⟨rfl, rfl⟩
  go_wp2_with fail
  refine (nil_seq w5).mono ?_
  rintro e w6 ⟨rfl, rfl⟩
  go_wp2_with fail
  refine (nil_token w5).mono ?_
  rintro e w6 ⟨rfl, rfl⟩
  go_wp2_with fail
  refine (nil_target w5).mono ?_
  rintro e w6 ⟨rfl, rfl⟩
  go_wp2_with fail
  refine (nil_answer w5).mono ?_
  rintro e w6 ⟨rfl, k6⟩
  have H6 : Hid (Blk w6 b 56 (oqc x).toArray ∧ Step [] [] w w6 ∧ RdQ w6 x) := Lib.hid ⟨H5.out.1.step k6 (by simp), H5.out.2.1.trans k6, H5.out.2.2.step k6⟩
  clear k6 H5
  have hfd : ∀ W, (Instr.field 54 (.agg #[.int .i64 0, .int .i64 0, .int .i64 0, .int .i64 0, .bool false, .slice none 0 0, .string ⟨#[]⟩]) 1).run Try.prog W = .ok (.int .i64 0) W := fun _ => by kernel_rfl
  go_wp2_with fail
  exact bodyPost_ret (results_tmp rfl _ _ _) rfl ⟨rfl, H6.out.2.1⟩

theorem ClientNone_walk (v0 : Value) (w : World) {b0 : Nat} (h0 : Value.okWide Try.prog w .any b0 56 v0) (o0 : Op Try.prog w 56 v0.cells.toList) :
  Calls Try.prog 7 #[v0] w fun e w' => e = .returned (.bool true) ∧ Below w.heap.size w w' := by
 obtain ⟨x, rfl, hr, hB⟩ := oq_in h0 o0
 exact (none24_any x w hr hB).mono fun e w' ⟨h1, h2⟩ => ⟨h1, h2.below0⟩
set_option maxRecDepth 100000 in
theorem ClientNone_lifted (os : Os) (started : os.Started) (H : Type) (enc : TypeId × Value → H) :
  ReturnsInHanded {} Try.checked os 7 .any (Rows.clientNoneSpec.pre6 enc Try.prog Try.f7 Rows.clientNoneRow.domain false) (Rows.clientNoneSpec.post enc Try.prog Try.f7 false true false false) := by
 refine returnsInHanded_of_change_sized (C := Try.checked) (by kernel_rfl) started (by kernel_rfl) Try.func7
  (ChangeSpec.witness6 (enc := enc) (C := Try.checked) false ⟨#[], #[.agg #[.int .i64 0, .int .i64 0, .int .i64 0, .string ⟨#[]⟩, .int .i64 0, .string ⟨#[]⟩, .string ⟨#[]⟩, .string ⟨#[]⟩, .string ⟨#[]⟩, .int .i64 0, .int .i64 0, .string ⟨#[]⟩, .string ⟨#[]⟩, .bool false, .bool false, .int .i64 0, .slice none 0 0, .slice none 0 0, .slice none 0 0, .string ⟨#[]⟩, .int .i64 0, .int .i64 0, .int .i64 0, .int .i64 0, .bool false, .slice none 0 0, .string ⟨#[]⟩, .int .i64 0, .int .i64 0]], []⟩ 8 (by kernel_rfl) (by kernel_rfl) (by kernel_rfl) (by kernel_rfl)) ?_
 intro W base args ds gs before hval0 hW hcnd hsz0 _
 have hval : ∀ (j : Nat) t v, Try.f7.params[j]? = some t → args[j]? = some v → Value.okWide Try.prog W .any base t v := hval0
 have hsz : (DataW.weightsEach Try.prog (Try.f7.params.toList ++ Rows.clientNoneSpec.plain.varTypes Try.prog) (ds ++ gs)).all (· ≤ reachBytes) = true := hsz0
 have hW' := hW
 obtain ⟨p, q, hA0, hV, rfl, hfz, hnd⟩ := hW
 have hA : DataW.TrodAll enc Try.prog W 0 (fun _ => true) true Try.f7.params.toList args.toList ds p := hA0
 rw [Try.params7] at hA hval hsz
 obtain ⟨v0, vs0, d0, ds0, p0, q0, hargs, rfl, rfl, h0, r0⟩ := trodAll_cons hA
 obtain ⟨rfl, rfl, rfl⟩ := trodAll_nil r0
 obtain rfl : args = #[v0] := by cases args; simp_all
 obtain ⟨rfl, rfl⟩ := trodVars_none hV
 have lt0 : ∀ x ∈ p0, x.block < W.heap.size := by obtain ⟨m, hm⟩ := h0; exact DataW.trod_lt m _ _ _ hm
 have o0 := op_of hsz (j := 0) rfl rfl h0
 refine (ClientNone_walk v0 W (hval 0 _ v0 rfl rfl) o0).mono fun e W' ⟨he, bel⟩ => ?_
 subst he
 exact ⟨_, rfl, _, _, _, [], _, [], hW', trodAll_mk1 (shut_bool Try.underlying4 _), (trodAll_cons_mk (Below.trod (by kernel_rfl) (by kernel_rfl) (of_decide_eq_true (by kernel_rfl)) h0 bel lt0) trodAll_mk0), rfl, bel.frame _, fun h => by cases h⟩

/-- The statement. -/
theorem ClientNone_holds : Rows.ClientNoneSaid :=
 OpenClaim.holds_of_wide 7 Try.f7 rfl rfl rfl rfl rfl rfl rfl ⟨rfl, rfl, rfl, rfl, rfl⟩ rfl rfl rfl rfl rfl (by kernel_rfl) Try.func7 (by kernel_rfl)
  (of_decide_eq_true (by kernel_rfl)) (by unfold Func.isWrapper; rw [if_neg (of_decide_eq_false (by kernel_rfl))]; exact ⟨rfl, rfl⟩)
  (fun os started H enc _ => ClientNone_lifted os started H enc)
#print axioms ClientNone_holds
end Go.Proofs.Ytjfaplmojpldhaa
