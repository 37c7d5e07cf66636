/-
  PackOrders, proved: of two numbers from 0 to 2^62 - 1 the less has the bytes that stand first, and equal ones have equal bytes. For every input; no condition beyond the form's own.
-/
import Derived.Test.YtjdmigoindhdnaaPackLaw
import Derived.Test.YtjdmigoindhdnaaPackVal
import Derived.Test.YtjdmigoindhdnaaOpen
namespace Go.Proofs.Ytjdmigoindhdnaa
open Go.RowKit Go.ChangeShapes Go.WideShapes Go.ChangeAt
set_option linter.unusedSimpArgs false
set_option linter.unusedVariables false

theorem one_item (a : Int) (h0 : 0 ≤ a) (h1 : a ≤ 4611686018427387903) : wbytes ([(⟨0, a, [], false⟩ : It)].foldl wone ⟨[], 0⟩) = (numB a.toNat, 0) := by
  have hl := numB_len a.toNat (by omega)
  simp only [List.foldl_cons, List.foldl_nil, wone, wnum, wput]
  rw [if_neg (by decide), if_neg (by decide), if_neg (by omega), if_neg (by simp), if_neg (by simp; omega)]
  simp [wbytes]

/-- A block that was just made, read as a slice from its head. -/
theorem rd_new (w : World) (t : TypeId) (cs : Array Value) (sz n : Nat) (hn : cs.size = n * sz) : Rd (w.alloc (.cells cs t)) sz (some ⟨w.heap.size, 0, none⟩) n cs.toList :=
  ⟨by simpa using hn, fun _ => ⟨_, _, rfl⟩, fun g off sp e j u hu => by
    injection e with e
    injection e with e1 e2 e3
    subst e1 e2
    rw [Nat.zero_add, (Blk.new w t cs).cell]
    simpa using hu⟩

set_option maxHeartbeats 1000000 in
theorem orders (a b : Int) (w : World) (ha : -9223372036854775808 ≤ a ∧ a < 9223372036854775808) (hb : -9223372036854775808 ≤ b ∧ b < 9223372036854775808) :
    Calls Try.prog 4 #[.int .i64 a, .int .i64 b] w fun e w' => e = .returned (.bool true) ∧ Below w.heap.size w w' := by
  by_cases hout : a < 0 ∨ b < 0 ∨ 4611686018427387903 < a ∨ 4611686018427387903 < b
  · have hcase : a < 0 ∨ (0 ≤ a ∧ b < 0) ∨ (0 ≤ a ∧ 0 ≤ b ∧ 4611686018427387903 < a) ∨ (0 ≤ a ∧ 0 ≤ b ∧ a ≤ 4611686018427387903 ∧ 4611686018427387903 < b) := by omega
    clear hout
    rcases hcase with h1 | ⟨h1, h2⟩ | ⟨h1, h2, h3⟩ | ⟨h1, h2, h3, h4⟩
    all_goals
      go_enter Try.func4, Try.ntmps4
      go_wp2_with fail
      refine (awake_true w).mono ?_
      rintro e w1 ⟨rfl, k1⟩
      go_wp2_with fail
      go_ret
      exact ⟨rfl, k1.below0⟩
  · have a0 : 0 ≤ a := by omega
    have b0 : 0 ≤ b := by omega
    have a1 : a ≤ 4611686018427387903 := by omega
    have b1 : b ≤ 4611686018427387903 := by omega
    have HA := Lib.hid (one_item a a0 a1)
    have HB := Lib.hid (one_item b b0 b1)
    have hless : Hid (Op.bytesLess (numB a.toNat) (numB b.toNat) = decide (a < b)) := by show _ = _; rw [less_num _ _ (by omega) (by omega)]; simp; omega
    have heq : Hid ((numB a.toNat == numB b.toNat) = (a == b)) := by
      show _ = _
      rw [eq_num, Bool.eq_iff_iff, decide_eq_true_eq, beq_iff_eq]
      omega
    clear hout
    go_enter Try.func4, Try.ntmps4
    go_wp2_with fail
    refine (awake_true w).mono ?_
    rintro e w1 ⟨rfl, k1⟩
    go_wp2_with fail
    refine (put_items [⟨0, a, [], false⟩] _ 1 _ (by simp) (rd_new w1 37 #[.int .i64 0, .int .i64 a, Str [], .bool false] 4 1 rfl) (by intro x hx; simp at hx; subst hx; exact ⟨ha.2, by simp⟩)).mono ?_
    rintro e w2 ⟨p, S, rfl, h2, k2⟩
    go_wp2_with fail
    refine (bytes_any p S _ w2 h2).mono ?_
    rw [HA.out]
    rintro e w3 ⟨rfl, k3⟩
    go_wp2_with fail
    refine (put_items [⟨0, b, [], false⟩] _ 1 _ (by simp) (rd_new w3 37 #[.int .i64 0, .int .i64 b, Str [], .bool false] 4 1 rfl) (by intro x hx; simp at hx; subst hx; exact ⟨hb.2, by simp⟩)).mono ?_
    rintro e w4 ⟨p4, S4, rfl, h4, k4⟩
    go_wp2_with fail
    refine (bytes_any p4 S4 _ w4 h4).mono ?_
    rw [HB.out]
    rintro e w5 ⟨rfl, k5⟩
    have hend := (((k1.alloc _).trans ((k2.trans (k3.keep S)).drop (S'' := []) (by simp))).alloc (.cells #[.int .i64 0, .int .i64 b, Str [], .bool false] 37)).trans ((k4.trans (k5.keep S4)).drop (S'' := []) (by simp))
    clear k1 k2 k3 k4 k5 h2 h4
    generalize numB a.toNat = x at *
    generalize numB b.toNat = y at *
    by_cases hab : a < b
    · have t1 : Op.bytesLess x y = true := by rw [hless.out]; simpa using hab
      have t2 : (x == y) = false := by rw [heq.out]; simp; omega
      have t3 : (a == b) = false := by simp; omega
      go_wp2_with fail
      go_ret
      exact ⟨rfl, hend.below0⟩
    · have t1 : Op.bytesLess x y = false := by rw [hless.out]; simpa using hab
      have t0 : decide (a < b) = false := by simpa using hab
      clear hab
      by_cases hne : a = b
      · have t2 : (x == y) = true := by rw [heq.out]; simpa using hne
        have t3 : (a == b) = true := by simpa using hne
        clear hne
        go_wp2_with fail
        go_ret
        exact ⟨rfl, hend.below0⟩
      · have t2 : (x == y) = false := by rw [heq.out]; simpa using hne
        have t3 : (a == b) = false := by simpa using hne
        clear hne
        go_wp2_with fail
        go_ret
        exact ⟨rfl, hend.below0⟩

theorem wf_i64' {x : Int} (h : (Lit.int .i64 x).wf = true) : -9223372036854775808 ≤ x ∧ x < 9223372036854775808 := by
  simp [Lit.wf, IntKind.min, IntKind.max, IntKind.signed, IntKind.bits] at h
  omega

theorem PackOrders_walk (v0 v1 : Value) (w : World) {b0 b1 : Nat} (hv0 : Value.okWide Try.prog w .any b0 3 v0) (h0 : Op Try.prog w 3 v0.cells.toList) (hv1 : Value.okWide Try.prog w .any b1 3 v1) (h1 : Op Try.prog w 3 v1.cells.toList) :
    Calls Try.prog 4 #[v0, v1] w fun e w' => e = .returned (.bool true) ∧ Below w.heap.size w w' := by
  obtain ⟨a, rfl⟩ := okWide_int Try.underlying3 hv0
  obtain ⟨b, rfl⟩ := okWide_int Try.underlying3 hv1
  obtain ⟨a', e0, wa⟩ := h0.int Try.underlying3
  obtain ⟨b', e1, wb⟩ := h1.int Try.underlying3
  simp [Value.cells] at e0 e1
  subst e0 e1
  exact orders a b w (wf_i64' wa) (wf_i64' wb)

set_option maxRecDepth 100000 in
theorem PackOrders_lifted (os : Os) (started : os.Started) (H : Type) (enc : TypeId × Value → H) :
    ReturnsInHanded {} Try.checked os 4 .any (Rows.packOrdersSpec.pre6 enc Try.prog Try.f4 Rows.packOrdersRow.domain false) (Rows.packOrdersSpec.post enc Try.prog Try.f4 false true false false) := by
  refine returnsInHanded_of_change_sized (C := Try.checked) (by kernel_rfl) started (by kernel_rfl) Try.func4
    (ChangeSpec.witness6 (enc := enc) (C := Try.checked) false ⟨#[], #[.int .i64 0, .int .i64 0], []⟩ 8 (by kernel_rfl) (by kernel_rfl) (by kernel_rfl) (by kernel_rfl)) ?_
  intro W base args ds gs before hval0 hW hcnd hsz0 _
  have hval : ∀ (j : Nat) t v, Try.f4.params[j]? = some t → args[j]? = some v → Value.okWide Try.prog W .any base t v := hval0
  have hsz : (DataW.weightsEach Try.prog (Try.f4.params.toList ++ Rows.packOrdersSpec.plain.varTypes Try.prog) (ds ++ gs)).all (· ≤ reachBytes) = true := hsz0
  have hW' := hW
  obtain ⟨p, q, hA0, hV, rfl, hfz, hnd⟩ := hW
  have hA : DataW.TrodAll enc Try.prog W 0 (fun _ => true) true Try.f4.params.toList args.toList ds p := hA0
  rw [Try.params4] at hA hval hsz
  obtain ⟨v0, vs0, d0, ds0, p0, q0, hargs, rfl, rfl, h0, r0⟩ := trodAll_cons hA
  obtain ⟨v1, vs1, d1, ds1, p1, q1, rfl, rfl, rfl, h1, r1⟩ := trodAll_cons r0
  obtain ⟨rfl, rfl, rfl⟩ := trodAll_nil r1
  obtain rfl : args = #[v0, v1] := by cases args; simp_all
  obtain ⟨rfl, rfl⟩ := trodVars_none hV
  have lt0 : ∀ x ∈ p0, x.block < W.heap.size := by obtain ⟨m, hm⟩ := h0; exact DataW.trod_lt m _ _ _ hm
  have o0 := op_of hsz (j := 0) rfl rfl h0
  have lt1 : ∀ x ∈ p1, x.block < W.heap.size := by obtain ⟨m, hm⟩ := h1; exact DataW.trod_lt m _ _ _ hm
  have o1 := op_of hsz (j := 1) rfl rfl h1
  refine (PackOrders_walk v0 v1 W (hval 0 _ v0 rfl rfl) o0 (hval 1 _ v1 rfl rfl) o1).mono fun e W' ⟨he, bel⟩ => ?_
  subst he
  exact ⟨_, rfl, _, _, _, [], _, [], hW', trodAll_mk1 (shut_bool Try.underlying4 _), (trodAll_cons_mk (Below.trod (by kernel_rfl) (by kernel_rfl) (of_decide_eq_true (by kernel_rfl)) h0 bel lt0) (trodAll_cons_mk (Below.trod (by kernel_rfl) (by kernel_rfl) (of_decide_eq_true (by kernel_rfl)) h1 bel lt1) trodAll_mk0)), rfl, bel.frame _, fun h => by cases h⟩

/-- The statement. -/
theorem PackOrders_holds : Rows.PackOrdersSaid :=
  OpenClaim.holds_of_wide 4 Try.f4 rfl rfl rfl rfl rfl rfl rfl ⟨rfl, rfl, rfl, rfl, rfl⟩ rfl rfl rfl rfl rfl (by kernel_rfl) Try.func4 (by kernel_rfl)
    (of_decide_eq_true (by kernel_rfl)) (by unfold Func.isWrapper; rw [if_neg (of_decide_eq_false (by kernel_rfl))]; exact ⟨rfl, rfl⟩)
    (fun os started H enc _ => PackOrders_lifted os started H enc)
#print axioms PackOrders_holds
end Go.Proofs.Ytjdmigoindhdnaa
