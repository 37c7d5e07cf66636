/-
  HashStreams, proved: a stream has at any time the digest of what stands there, and goes on. For every input; no condition beyond the form's own.
-/
import Derived.Test.YtdolfccnlnhngaaHashParts
namespace Go.Proofs.Ytdolfccnlnhngaa
open Go.RowKit Go.ChangeShapes Go.WideShapes Go.ChangeAt
set_option linter.unusedSimpArgs false
set_option linter.unusedVariables false

set_option maxRecDepth 100000 in
set_option maxHeartbeats 2000000 in
theorem streams_any (l : List (List UInt8)) (a : Option Addr) (cap : Nat) (w : World) (hr : Rd w 1 a l.length (l.map Str)) (hl : l.length ≤ 9223372036854775807) (hx : ∀ x ∈ l, x.length ≤ 140737488351232) :
    Calls Try.prog 4 #[.slice a l.length cap] w fun e w' => e = .returned (.bool true) ∧ Step [] [] w w' := by
  have HR := Lib.hid hr
  clear hr
  go_enter Try.func4, Try.ntmps4
  go_wp2_with fail
  refine (awake_true w).mono ?_
  rintro e w1 ⟨rfl, k1⟩
  have K1 := Lib.hid k1
  clear k1
  go_wp2_with fail
  refine (great_any l a cap w1 (HR.out.step0 K1.out) hl hx).mono ?_
  rintro e w2 ⟨b, rfl, rfl, hb⟩
  have HB := Lib.hid hb
  clear hb
  cases b with
  | true =>
    go_wp2_with fail
    go_ret
    exact ⟨rfl, K1.out⟩
  | false =>
    have h1 := (HB.out rfl).1
    have h2 := (HB.out rfl).2
    go_wp2_with fail
    refine (new_any _).mono ?_
    rintro e w3 ⟨p, rfl, h3, s3⟩
    have H3 := Lib.hid (And.intro h3 (K1.out.trans s3))
    clear h3 s3
    go_wp2_with fail
    go_loopw [5, 14] (fun v i wr => ∃ (k : Nat) (m : List UInt8) (S' : List Nat), k ≤ l.length ∧ m.length ≤ 2000 ∧ i = .int .i64 k ∧ v = Str m ∧ Hid (m = (l.take k).flatten ∧ St wr p S' m ∧ Step [] S' w wr))
      (fun _ i _ => l.length - (intOf i).toNat)
    case atStart => exact ⟨0, [], [p], by omega, by simp, rfl, rfl, rfl, H3.out⟩
    case round =>
      obtain ⟨k, m, S', hk, hm, rfl, rfl, HK⟩ := hrel
      by_cases hlt : k < l.length
      · have hlt' : (k : Int) < l.length := by omega
        obtain ⟨x, hxx⟩ : ∃ x, l[k]? = some x := ⟨_, List.getElem?_eq_getElem hlt⟩
        obtain ⟨g, off, rfl⟩ := HR.out.some_ (by omega)
        have hmx : m.length + x.length ≤ 2000 := by
          have h4 := flatten_take_len l (k + 1)
          rw [flatten_take_add l k x hxx, ← HK.out.1, List.length_append] at h4
          omega
        have cx := (HR.out.step0 HK.out.2.2).cell g off none rfl k (Str x) (by simp [hxx])
        go_wp2_with fail
        refine (write_any p S' m x _ HK.out.2.1 (by omega)).mono ?_
        rintro e w4 ⟨rfl, S4, h4, s4⟩
        have H4 := Lib.hid (And.intro h4 (HK.out.2.2.trans s4))
        clear h4 s4 cx
        have cx := (HR.out.step0 H4.out.2).cell g off none rfl k (Str x) (by simp [hxx])
        go_wp2_with fail
        refine (write_nil x _).mono ?_
        rintro e w5 ⟨rfl, rfl⟩
        have hcat : m.length + x.length ≤ 9223372036854775807 := by omega
        have HMX : Hid (m ++ x = (l.take (k + 1)).flatten) := by
          rw [flatten_take_add l k x hxx, ← HK.out.1]; rfl
        have hmxl : (m ++ x).length ≤ 2000 := by rw [List.length_append]; exact hmx
        obtain ⟨M, hM⟩ : ∃ M, M = m ++ x := ⟨_, rfl⟩
        by_cases h8 : k % 8 = 7
        · have h8' : (k : Int) % 8 = 7 := by omega
          clear h8
          go_upto_region 13 with fail
          rw [← hM]
          rw [← hM] at H4 hmxl HMX
          have HM := Lib.hid hM
          clear hM
          go_wp2_with fail
          refine (ssum_any p S4 M _ H4.out.1).mono ?_
          rintro e w6 ⟨rfl, k6⟩
          have H6 := Lib.hid (And.intro (StG.step H4.out.1 k6 (by simp)) (H4.out.2.trans (k6.keep _)))
          clear k6
          obtain ⟨D, hD⟩ : ∃ D, D = sha M := ⟨_, rfl⟩
          rw [← hD]
          have HD := Lib.hid hD
          clear hD
          go_wp2_with fail
          refine (refSum_any M _ (by omega)).mono ?_
          rintro e w7 ⟨rfl, k7⟩
          have H7 := Lib.hid (And.intro (StG.step H6.out.1 k7 (by simp)) (H6.out.2.trans (k7.keep _)))
          clear k7
          rw [← HD.out]
          go_wp2_with fail
          go_roundw
          case rel => exact ⟨k + 1, M, S4, by omega, hmxl, by go_num, rfl, HMX.out, H7.out.1, H7.out.2⟩
          case measure => simp [intOf]; omega
        · have h8' : ¬ (k : Int) % 8 = 7 := by omega
          clear h8
          go_upto_region 13 with fail
          rw [← hM]
          rw [← hM] at H4 hmxl HMX
          have HM := Lib.hid hM
          clear hM
          go_wp2_with fail
          go_roundw
          case rel => exact ⟨k + 1, M, S4, by omega, hmxl, by go_num, rfl, HMX.out, H4.out.1, H4.out.2⟩
          case measure => simp [intOf]; omega
      · obtain rfl : k = l.length := by omega
        obtain ⟨D, hD⟩ : ∃ D, D = sha m := ⟨_, rfl⟩
        have HD := Lib.hid hD
        clear hD
        go_wp2_with fail
        refine (ssum_any p S' m _ HK.out.2.1).mono ?_
        rintro e w6 ⟨rfl, k6⟩
        have H6 := Lib.hid (And.intro (StG.step HK.out.2.1 k6 (by simp)) (HK.out.2.2.trans (k6.keep _)))
        clear k6
        rw [← HD.out]
        go_wp2_with fail
        refine (refSum_any m _ (by omega)).mono ?_
        rintro e w7 ⟨rfl, k7⟩
        have H7 := Lib.hid (And.intro (StG.step H6.out.1 k7 (by simp)) (H6.out.2.trans (k7.keep _)))
        clear k7
        rw [← HD.out]
        go_wp2_with fail
        refine (ssum_any p S' m _ H7.out.1).mono ?_
        rintro e w8 ⟨rfl, k8⟩
        have H8 := Lib.hid (H7.out.2.trans (k8.keep _))
        clear k8
        rw [← HD.out]
        go_wp2_with fail
        refine (sum_any m _ (by omega)).mono ?_
        rintro e w9 ⟨rfl, k9⟩
        have H9 := Lib.hid (H8.out.trans (k9.keep _))
        clear k9
        rw [← HD.out]
        go_wp2_with fail
        refine (ssum_nil _).mono ?_
        rintro e w10 ⟨rfl, rfl⟩
        go_wp2_with fail
        go_ret
        exact ⟨rfl, H9.out.drop (by simp)⟩

theorem HashStreams_walk (v0 : Value) (w : World) {b0 : Nat} (hv0 : Value.okWide Try.prog w .any b0 25 v0) (h0 : Op Try.prog w 25 v0.cells.toList) :
    Calls Try.prog 4 #[v0] w fun e w' => e = .returned (.bool true) ∧ Below w.heap.size w w' := by
  obtain ⟨ts, a, cap, rfl, hrd, hl, hx⟩ := texts_of hv0 h0
  exact (streams_any ts a cap w hrd hl hx).mono fun e w' ⟨he, k⟩ => ⟨he, k.below0⟩

set_option maxRecDepth 100000 in
theorem HashStreams_lifted (os : Os) (started : os.Started) (H : Type) (enc : TypeId × Value → H) :
    ReturnsInHanded {} Try.checked os 4 .any (Rows.hashStreamsSpec.pre6 enc Try.prog Try.f4 Rows.hashStreamsRow.domain false) (Rows.hashStreamsSpec.post enc Try.prog Try.f4 false true false false) := by
  refine returnsInHanded_of_change_sized (C := Try.checked) (by kernel_rfl) started (by kernel_rfl) Try.func4
    (ChangeSpec.witness6 (enc := enc) (C := Try.checked) false ⟨#[], #[.slice none 0 0], []⟩ 8 (by kernel_rfl) (by kernel_rfl) (by kernel_rfl) (by kernel_rfl)) ?_
  intro W base args ds gs before hval0 hW hcnd hsz0 _
  have hval : ∀ (j : Nat) t v, Try.f4.params[j]? = some t → args[j]? = some v → Value.okWide Try.prog W .any base t v := hval0
  have hsz : (DataW.weightsEach Try.prog (Try.f4.params.toList ++ Rows.hashStreamsSpec.plain.varTypes Try.prog) (ds ++ gs)).all (· ≤ reachBytes) = true := hsz0
  have hW' := hW
  obtain ⟨p, q, hA0, hV, rfl, hfz, hnd⟩ := hW
  have hA : DataW.TrodAll enc Try.prog W 0 (fun _ => true) true Try.f4.params.toList args.toList ds p := hA0
  rw [Try.params4] at hA hval hsz
  obtain ⟨v0, vs0, d0, ds0, p0, q0, hargs, rfl, rfl, h0, r0⟩ := trodAll_cons hA
  obtain ⟨rfl, rfl, rfl⟩ := trodAll_nil r0
  obtain rfl : args = #[v0] := by cases args; simp_all
  obtain ⟨rfl, rfl⟩ := trodVars_none hV
  have lt0 : ∀ x ∈ p0, x.block < W.heap.size := by obtain ⟨m, hm⟩ := h0; exact DataW.trod_lt m _ _ _ hm
  have o0 := op_of hsz (j := 0) rfl rfl h0
  refine (HashStreams_walk v0 W (hval 0 _ v0 rfl rfl) o0).mono fun e W' ⟨he, bel⟩ => ?_
  subst he
  exact ⟨_, rfl, _, _, _, [], _, [], hW', trodAll_mk1 (shut_bool Try.underlying4 _), (trodAll_cons_mk (Below.trod (by kernel_rfl) (by kernel_rfl) (of_decide_eq_true (by kernel_rfl)) h0 bel lt0) trodAll_mk0), rfl, bel.frame _, fun h => by cases h⟩

/-- The statement. -/
theorem HashStreams_holds : Rows.HashStreamsSaid :=
  OpenClaim.holds_of_wide 4 Try.f4 rfl rfl rfl rfl rfl rfl rfl ⟨rfl, rfl, rfl, rfl, rfl⟩ rfl rfl rfl rfl rfl (by kernel_rfl) Try.func4 (by kernel_rfl)
    (of_decide_eq_true (by kernel_rfl)) (by unfold Func.isWrapper; rw [if_neg (of_decide_eq_false (by kernel_rfl))]; exact ⟨rfl, rfl⟩)
    (fun os started H enc _ => HashStreams_lifted os started H enc)
#print axioms HashStreams_holds
end Go.Proofs.Ytdolfccnlnhngaa
