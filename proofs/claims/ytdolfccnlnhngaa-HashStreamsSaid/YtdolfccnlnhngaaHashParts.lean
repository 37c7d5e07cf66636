/-
  HashParts, proved: parts have the digest of all of them with their lengths. For every input; no condition beyond the form's own.
-/
import Derived.Test.YtdolfccnlnhngaaHashGreat
import Derived.Test.YtdolfccnlnhngaaHashRefJoin
import Derived.Test.YtdolfccnlnhngaaOpen
import Derived.Test.YtdolfccnlnhngaaRows
namespace Go.Proofs.Ytdolfccnlnhngaa
open Go.RowKit Go.ChangeShapes Go.WideShapes Go.ChangeAt
set_option linter.unusedSimpArgs false
set_option linter.unusedVariables false

set_option maxRecDepth 100000 in
set_option maxHeartbeats 1000000 in
theorem partsLaw_any (l : List (List UInt8)) (a : Option Addr) (cap : Nat) (w : World) (hr : Rd w 1 a l.length (l.map Str)) (hl : l.length ≤ 9223372036854775807) (hx : ∀ x ∈ l, x.length ≤ 140737488351232) :
    Calls Try.prog 5 #[.slice a l.length cap] w fun e w' => e = .returned (.bool true) ∧ Step [] [] w w' := by
  have HR := Lib.hid hr
  clear hr
  go_enter Try.func5, Try.ntmps5
  go_wp2_with fail
  refine (awake_true w).mono ?_
  rintro e w1 ⟨rfl, k1⟩
  have K1 := Lib.hid k1
  clear k1
  go_wp2_with fail
  refine (great_any l a cap w1 (HR.out.step0 K1.out) hl hx).mono ?_
  rintro e w2 ⟨b, rfl, rfl, hb⟩
  have HB := Lib.hid hb
  clear hb
  cases b with
  | true =>
    go_wp2_with fail
    go_ret
    exact ⟨rfl, K1.out⟩
  | false =>
    have h1 := (HB.out rfl).1
    have h2 := (HB.out rfl).2
    have h3 := joined_len l
    obtain ⟨D, hD⟩ : ∃ D, D = sha (joined l) := ⟨_, rfl⟩
    have HD := Lib.hid hD
    clear hD
    go_wp2_with fail
    refine (parts_any l a cap _ (HR.out.step0 K1.out) (by omega) (by omega)).mono ?_
    rintro e w3 ⟨rfl, k3⟩
    have K3 := Lib.hid (K1.out.trans k3)
    clear k3
    rw [← HD.out]
    go_wp2_with fail
    refine (refJoined_any l a cap _ (HR.out.step0 K3.out) (by omega) (by omega)).mono ?_
    rintro e w4 ⟨rfl, k4⟩
    have K4 := Lib.hid (K3.out.trans k4)
    clear k4
    obtain ⟨J, hJ⟩ : ∃ J, J = joined l := ⟨_, rfl⟩
    rw [← hJ]
    have HJ := Lib.hid hJ
    have hJl : J.length ≤ 1099511627776 := by rw [hJ]; omega
    clear hJ
    go_wp2_with fail
    refine (refSum_any J _ hJl).mono ?_
    rintro e w5 ⟨rfl, k5⟩
    have K5 := Lib.hid (K4.out.trans k5)
    clear k5
    rw [show sha J = D by rw [HD.out, HJ.out]]
    go_wp2_with fail
    go_ret
    exact ⟨rfl, K5.out⟩

theorem flat_strs (ts : List (List UInt8)) : ts.flatMap (fun s => [Str s]) = ts.map Str := by
  induction ts with
  | nil => rfl
  | cons a r ih => simp [List.flatMap_cons, ih]

theorem texts_of {w : World} {v : Value} {b : Nat} (hv : Value.okWide Try.prog w .any b 25 v) (h : Op Try.prog w 25 v.cells.toList) :
    ∃ (ts : List (List UInt8)) (a : Option Addr) (cap : Nat), v = .slice a ts.length cap ∧ Rd w 1 a ts.length (ts.map Str) ∧ ts.length ≤ 9223372036854775807 ∧ ∀ x ∈ ts, x.length ≤ 140737488351232 := by
  obtain ⟨a, n, cap, rfl⟩ := okWide_slice Try.underlying25 hv
  obtain ⟨a', n', cap', e, g1, g2, g3, g4⟩ := h.slice Try.underlying25 (sz := 1) (by kernel_rfl)
  simp [Value.cells] at e
  obtain ⟨rfl, rfl, rfl⟩ := e
  obtain ⟨ts, hts, hrd, hq⟩ := rd_of (w := w) (fun s : List UInt8 => [Str s]) 1 (by omega) (fun _ => rfl) (fun s => s.length ≤ 140737488351232) (n := n) (a := a) (fun i hi => by
    obtain ⟨cs', hl', hc, ho⟩ := g4 i hi
    obtain ⟨s, hs, hle⟩ := ho.str Try.underlying9
    subst hs
    exact ⟨s, hc, hle⟩)
  subst hts
  rw [flat_strs] at hrd
  exact ⟨ts, a, cap, rfl, hrd, by unfold maxLen at g2; omega, hq⟩

theorem HashParts_walk (v0 : Value) (w : World) {b0 : Nat} (hv0 : Value.okWide Try.prog w .any b0 25 v0) (h0 : Op Try.prog w 25 v0.cells.toList) :
    Calls Try.prog 5 #[v0] w fun e w' => e = .returned (.bool true) ∧ Below w.heap.size w w' := by
  obtain ⟨ts, a, cap, rfl, hrd, hl, hx⟩ := texts_of hv0 h0
  exact (partsLaw_any ts a cap w hrd hl hx).mono fun e w' ⟨he, k⟩ => ⟨he, k.below0⟩

set_option maxRecDepth 100000 in
theorem HashParts_lifted (os : Os) (started : os.Started) (H : Type) (enc : TypeId × Value → H) :
    ReturnsInHanded {} Try.checked os 5 .any (Rows.hashPartsSpec.pre6 enc Try.prog Try.f5 Rows.hashPartsRow.domain false) (Rows.hashPartsSpec.post enc Try.prog Try.f5 false true false false) := by
  refine returnsInHanded_of_change_sized (C := Try.checked) (by kernel_rfl) started (by kernel_rfl) Try.func5
    (ChangeSpec.witness6 (enc := enc) (C := Try.checked) false ⟨#[], #[.slice none 0 0], []⟩ 8 (by kernel_rfl) (by kernel_rfl) (by kernel_rfl) (by kernel_rfl)) ?_
  intro W base args ds gs before hval0 hW hcnd hsz0 _
  have hval : ∀ (j : Nat) t v, Try.f5.params[j]? = some t → args[j]? = some v → Value.okWide Try.prog W .any base t v := hval0
  have hsz : (DataW.weightsEach Try.prog (Try.f5.params.toList ++ Rows.hashPartsSpec.plain.varTypes Try.prog) (ds ++ gs)).all (· ≤ reachBytes) = true := hsz0
  have hW' := hW
  obtain ⟨p, q, hA0, hV, rfl, hfz, hnd⟩ := hW
  have hA : DataW.TrodAll enc Try.prog W 0 (fun _ => true) true Try.f5.params.toList args.toList ds p := hA0
  rw [Try.params5] at hA hval hsz
  obtain ⟨v0, vs0, d0, ds0, p0, q0, hargs, rfl, rfl, h0, r0⟩ := trodAll_cons hA
  obtain ⟨rfl, rfl, rfl⟩ := trodAll_nil r0
  obtain rfl : args = #[v0] := by cases args; simp_all
  obtain ⟨rfl, rfl⟩ := trodVars_none hV
  have lt0 : ∀ x ∈ p0, x.block < W.heap.size := by obtain ⟨m, hm⟩ := h0; exact DataW.trod_lt m _ _ _ hm
  have o0 := op_of hsz (j := 0) rfl rfl h0
  refine (HashParts_walk v0 W (hval 0 _ v0 rfl rfl) o0).mono fun e W' ⟨he, bel⟩ => ?_
  subst he
  exact ⟨_, rfl, _, _, _, [], _, [], hW', trodAll_mk1 (shut_bool Try.underlying4 _), (trodAll_cons_mk (Below.trod (by kernel_rfl) (by kernel_rfl) (of_decide_eq_true (by kernel_rfl)) h0 bel lt0) trodAll_mk0), rfl, bel.frame _, fun h => by cases h⟩

/-- The statement. -/
theorem HashParts_holds : Rows.HashPartsSaid :=
  OpenClaim.holds_of_wide 5 Try.f5 rfl rfl rfl rfl rfl rfl rfl ⟨rfl, rfl, rfl, rfl, rfl⟩ rfl rfl rfl rfl rfl (by kernel_rfl) Try.func5 (by kernel_rfl)
    (of_decide_eq_true (by kernel_rfl)) (by unfold Func.isWrapper; rw [if_neg (of_decide_eq_false (by kernel_rfl))]; exact ⟨rfl, rfl⟩)
    (fun os started H enc _ => HashParts_lifted os started H enc)
#print axioms HashParts_holds
end Go.Proofs.Ytdolfccnlnhngaa
