/-
  HashKeys, proved: a key with noughts behind it, up to 64 bytes, has the MACs of the key. For every input; no condition beyond the form's own.
-/
import Derived.Test.YtdolfccnlnhngaaHashLaw
import Derived.Test.YtdolfccnlnhngaaHashMac
import Derived.Test.YtdolfccnlnhngaaOpen
import Derived.Test.YtdolfccnlnhngaaRows
namespace Go.Proofs.Ytdolfccnlnhngaa
open Go.RowKit Go.ChangeShapes Go.WideShapes Go.ChangeAt
set_option linter.unusedSimpArgs false
set_option linter.unusedVariables false

theorem mac_noughts (key s : List UInt8) (n : Nat) (h : key.length + n ≤ 64) : macOf (key ++ List.replicate n 0) s = macOf key s := by
  have e1 : macKey (key ++ List.replicate n 0) = key ++ List.replicate n 0 := by unfold macKey; rw [if_neg (by simp; omega)]
  have e2 : macKey key = key := by unfold macKey; rw [if_neg (by omega)]
  have e3 : padKey (key ++ List.replicate n 0) = padKey key := by
    unfold padKey
    rw [List.append_assoc, List.replicate_append_replicate]
    congr 2
    simp; omega
  unfold macOf padBy
  rw [e1, e2, e3]

set_option maxRecDepth 100000 in
set_option maxHeartbeats 2000000 in
theorem keys_any (key s : List UInt8) (m : UInt8) (w : World) (hk : key.length ≤ 140737488351232) (hs : s.length ≤ 140737488351232) :
    Calls Try.prog 7 #[Str key, Str s, .int .u8 (m.toNat : Int)] w fun e w' => e = .returned (.bool true) ∧ Step [] [] w w' := by
  obtain ⟨n, hn⟩ : ∃ n, n = m.toNat % 65 := ⟨_, rfl⟩
  have hn1 : (m.toNat : Int) % 65 = (n : Int) := by omega
  have hn2 : n ≤ 64 := by omega
  clear hn
  by_cases hout : 2000 < s.length ∨ 64 < key.length + n
  · have hcase : (2000 : Int) < s.length ∨ (¬ (2000 : Int) < s.length ∧ (64 : Int) < key.length + n) := by omega
    clear hout
    rcases hcase with h1 | ⟨h1, h2⟩
    all_goals
      go_enter Try.func7, Try.ntmps7
      go_wp2_with fail
      refine (awake_true w).mono ?_
      rintro e w1 ⟨rfl, k1⟩
      go_wp2_with fail
      go_ret
      exact ⟨rfl, k1⟩
  · have hs0 : s.length ≤ 2000 := by omega
    have hk0 : key.length + n ≤ 64 := by omega
    have hs1 : ¬ (2000 : Int) < s.length := by omega
    have hk1 : ¬ (64 : Int) < key.length + n := by omega
    clear hout
    have hmk : ∀ W, (Instr.makeSlice 35 (.int .i64 (n : Int)) (.int .i64 (n : Int))).run Try.prog W = .ok (.slice (some ⟨W.heap.size, 0, none⟩) n n) (W.alloc (.cells (madeCells #[Value.int .u8 0] n) 5)) := fun W =>
      run_make_row' (P := Try.prog) 35 5 (.int .u8 0) 1 Try.underlying35 Try.info_bytes rfl .i64 .i64 n (by omega) (by omega) W
    have hrow : ∀ W : World, Row (W.alloc (.cells (madeCells #[Value.int .u8 0] n) 5)) 1 (some ⟨W.heap.size, 0, none⟩) n n ((List.replicate n (0 : UInt8)).map bv) := fun W => by
      have h := row_fresh W 5 ((List.replicate n (0 : UInt8)).map bv) (by simp; unfold maxLen; omega)
      have e : ((List.replicate n (0 : UInt8)).map bv).toArray = madeCells #[Value.int .u8 0] n := by
        apply Array.ext'
        rw [toList_madeCells_one]; simp [bv]
      rw [e] at h
      simpa using h
    have HROW := Lib.hid hrow
    clear hrow
    go_enter Try.func7, Try.ntmps7
    go_wp2_with fail
    refine (awake_true w).mono ?_
    rintro e w1 ⟨rfl, k1⟩
    have K1 := Lib.hid k1
    clear k1
    go_wp2_with fail
    rw [run_str_of_row 35 9 5 Try.underlying35 Try.underlying5 Try.underlying9 (HROW.out w1)]
    rw [Result.andThen_ok, Oper.upon_value]
    obtain ⟨Z, hZ⟩ : ∃ Z, Z = List.replicate n (0 : UInt8) := ⟨_, rfl⟩
    have hZl : Z.length = n := by rw [hZ]; simp
    rw [← hZ]
    have HZ := Lib.hid hZ
    clear hZ
    go_wp2_with fail
    refine (mac_any (key ++ Z) s _ (by simp; omega) (by omega)).mono ?_
    rintro e w2 ⟨rfl, k2⟩
    have K2 := Lib.hid ((K1.out.alloc _).trans k2)
    clear k2
    rw [show macOf (key ++ Z) s = macOf key s by rw [HZ.out]; exact mac_noughts key s n hk0]
    go_wp2_with fail
    refine (mac_any key s _ (by omega) (by omega)).mono ?_
    rintro e w3 ⟨rfl, k3⟩
    have K3 := Lib.hid (K2.out.trans k3)
    clear k3
    go_wp2_with fail
    go_ret
    exact ⟨rfl, K3.out⟩

theorem HashKeys_walk (v0 v1 v2 : Value) (w : World) {b0 b1 b2 : Nat} (hv0 : Value.okWide Try.prog w .any b0 9 v0) (h0 : Op Try.prog w 9 v0.cells.toList) (hv1 : Value.okWide Try.prog w .any b1 9 v1) (h1 : Op Try.prog w 9 v1.cells.toList) (hv2 : Value.okWide Try.prog w .any b2 5 v2) (h2 : Op Try.prog w 5 v2.cells.toList) :
    Calls Try.prog 7 #[v0, v1, v2] w fun e w' => e = .returned (.bool true) ∧ Below w.heap.size w w' := by
  obtain ⟨s, rfl⟩ := okWide_string Try.underlying9 hv0
  obtain ⟨t, rfl⟩ := okWide_string Try.underlying9 hv1
  obtain ⟨x, rfl⟩ := okWide_int Try.underlying5 hv2
  obtain ⟨l, e, hl⟩ := h0.str Try.underlying9
  simp [Value.cells] at e
  subst e
  obtain ⟨m, e, hm⟩ := h1.str Try.underlying9
  simp [Value.cells] at e
  subst e
  obtain ⟨x', e, wx⟩ := h2.int Try.underlying5
  simp [Value.cells] at e
  subst e
  have hx : 0 ≤ x ∧ x < 256 := by
    have := wx
    simp [Lit.wf, IntKind.min, IntKind.max, IntKind.signed, IntKind.bits] at this
    omega
  have e : x = (((UInt8.ofNat x.toNat).toNat : Nat) : Int) := by
    rw [UInt8.toNat_ofNat']; omega
  rw [e]
  exact (keys_any l m _ w hl hm).mono fun e w' ⟨he, k⟩ => ⟨he, k.below0⟩

set_option maxRecDepth 100000 in
theorem HashKeys_lifted (os : Os) (started : os.Started) (H : Type) (enc : TypeId × Value → H) :
    ReturnsInHanded {} Try.checked os 7 .any (Rows.hashKeysSpec.pre6 enc Try.prog Try.f7 Rows.hashKeysRow.domain false) (Rows.hashKeysSpec.post enc Try.prog Try.f7 false true false false) := by
  refine returnsInHanded_of_change_sized (C := Try.checked) (by kernel_rfl) started (by kernel_rfl) Try.func7
    (ChangeSpec.witness6 (enc := enc) (C := Try.checked) false ⟨#[], #[Str [], Str [], .int .u8 0], []⟩ 8 (by kernel_rfl) (by kernel_rfl) (by kernel_rfl) (by kernel_rfl)) ?_
  intro W base args ds gs before hval0 hW hcnd hsz0 _
  have hval : ∀ (j : Nat) t v, Try.f7.params[j]? = some t → args[j]? = some v → Value.okWide Try.prog W .any base t v := hval0
  have hsz : (DataW.weightsEach Try.prog (Try.f7.params.toList ++ Rows.hashKeysSpec.plain.varTypes Try.prog) (ds ++ gs)).all (· ≤ reachBytes) = true := hsz0
  have hW' := hW
  obtain ⟨p, q, hA0, hV, rfl, hfz, hnd⟩ := hW
  have hA : DataW.TrodAll enc Try.prog W 0 (fun _ => true) true Try.f7.params.toList args.toList ds p := hA0
  rw [Try.params7] at hA hval hsz
  obtain ⟨v0, vs0, d0, ds0, p0, q0, hargs, rfl, rfl, h0, r0⟩ := trodAll_cons hA
  obtain ⟨v1, vs1, d1, ds1, p1, q1, rfl, rfl, rfl, h1, r1⟩ := trodAll_cons r0
  obtain ⟨v2, vs2, d2, ds2, p2, q2, rfl, rfl, rfl, h2, r2⟩ := trodAll_cons r1
  obtain ⟨rfl, rfl, rfl⟩ := trodAll_nil r2
  obtain rfl : args = #[v0, v1, v2] := by cases args; simp_all
  obtain ⟨rfl, rfl⟩ := trodVars_none hV
  have lt0 : ∀ x ∈ p0, x.block < W.heap.size := by obtain ⟨m, hm⟩ := h0; exact DataW.trod_lt m _ _ _ hm
  have o0 := op_of hsz (j := 0) rfl rfl h0
  have lt1 : ∀ x ∈ p1, x.block < W.heap.size := by obtain ⟨m, hm⟩ := h1; exact DataW.trod_lt m _ _ _ hm
  have o1 := op_of hsz (j := 1) rfl rfl h1
  have lt2 : ∀ x ∈ p2, x.block < W.heap.size := by obtain ⟨m, hm⟩ := h2; exact DataW.trod_lt m _ _ _ hm
  have o2 := op_of hsz (j := 2) rfl rfl h2
  refine (HashKeys_walk v0 v1 v2 W (hval 0 _ v0 rfl rfl) o0 (hval 1 _ v1 rfl rfl) o1 (hval 2 _ v2 rfl rfl) o2).mono fun e W' ⟨he, bel⟩ => ?_
  subst he
  exact ⟨_, rfl, _, _, _, [], _, [], hW', trodAll_mk1 (shut_bool Try.underlying4 _), (trodAll_cons_mk (Below.trod (by kernel_rfl) (by kernel_rfl) (of_decide_eq_true (by kernel_rfl)) h0 bel lt0) (trodAll_cons_mk (Below.trod (by kernel_rfl) (by kernel_rfl) (of_decide_eq_true (by kernel_rfl)) h1 bel lt1) (trodAll_cons_mk (Below.trod (by kernel_rfl) (by kernel_rfl) (of_decide_eq_true (by kernel_rfl)) h2 bel lt2) trodAll_mk0))), rfl, bel.frame _, fun h => by cases h⟩

/-- The statement. -/
theorem HashKeys_holds : Rows.HashKeysSaid :=
  OpenClaim.holds_of_wide 7 Try.f7 rfl rfl rfl rfl rfl rfl rfl ⟨rfl, rfl, rfl, rfl, rfl⟩ rfl rfl rfl rfl rfl (by kernel_rfl) Try.func7 (by kernel_rfl)
    (of_decide_eq_true (by kernel_rfl)) (by unfold Func.isWrapper; rw [if_neg (of_decide_eq_false (by kernel_rfl))]; exact ⟨rfl, rfl⟩)
    (fun os started H enc _ => HashKeys_lifted os started H enc)
#print axioms HashKeys_holds
end Go.Proofs.Ytdolfccnlnhngaa
