/-
  PackPuts, proved: whatever is put (a thousand things at most), the bytes are those of the reference, or the first fault is; a writer that isn't there says so. For every input; no condition beyond the form's own.
-/
import Derived.Test.YtjdmigoindhdnaaPackTame
import Derived.Test.YtjdmigoindhdnaaOpen
namespace Go.Proofs.Ytjdmigoindhdnaa
open Go.RowKit Go.ChangeShapes Go.WideShapes Go.ChangeAt
set_option linter.unusedSimpArgs false
set_option linter.unusedVariables false

theorem wf_i64 {x : Int} (h : (Lit.int .i64 x).wf = true) : -9223372036854775808 ≤ x ∧ x < 9223372036854775808 := by
  simp [Lit.wf, IntKind.min, IntKind.max, IntKind.signed, IntKind.bits] at h
  omega

/-- A thing, read. -/
theorem op_item {w : World} {cs : List Value} (h : Op Try.prog w 37 cs) : ∃ x : It, cs = itc x ∧ x.ok := by
  obtain ⟨hl, hf⟩ := h.struct Try.underlying37
  rw [show Try.prog.cellsOf 37 = 4 by kernel_rfl] at hl
  obtain ⟨c0, c1, c2, c3, rfl⟩ : ∃ a b c d, cs = [a, b, c, d] := by
    match cs, hl with
    | [a, b, c, d], _ => exact ⟨a, b, c, d, rfl⟩
  have g0 := h.field Try.underlying37 0 3 rfl (by kernel_rfl) rfl
  have g1 := h.field Try.underlying37 1 3 rfl (by kernel_rfl) rfl
  have g2 := h.field Try.underlying37 2 9 rfl (by kernel_rfl) rfl
  have g3 := h.field Try.underlying37 3 4 rfl (by kernel_rfl) rfl
  obtain ⟨k, e0, _⟩ := g0.int Try.underlying3
  obtain ⟨n, e1, w1⟩ := g1.int Try.underlying3
  obtain ⟨s, e2, w2⟩ := g2.str Try.underlying9
  obtain ⟨b, e3⟩ := g3.bool Try.underlying4
  simp at e0 e1 e2 e3
  subst e0 e1 e2 e3
  exact ⟨⟨k, n, s, b⟩, rfl, (wf_i64 w1).2, by simp only; omega⟩

/-- Things, read. -/
theorem op_items {w : World} {v : Value} (h : Op Try.prog w 22 [v]) : ∃ (a : Option Addr) (cap : Nat) (l : List It), v = .slice a l.length cap ∧ l.length ≤ cap ∧ cap ≤ maxLen ∧ Rd w 4 a l.length (itcs l) ∧ ∀ x ∈ l, x.ok := by
  obtain ⟨a, n, cap, e, h1, h2, h3, h4⟩ := h.slice Try.underlying22 (sz := 4) (by kernel_rfl)
  obtain ⟨l, hl, hr, hq⟩ := rd_of (w := w) itc 4 (by omega) (fun _ => rfl) It.ok (n := n) (a := a) (fun i hi => by
    obtain ⟨cs', hl', hc, ho⟩ := h4 i hi
    obtain ⟨x, hx, hok⟩ := op_item ho
    subst hx
    exact ⟨x, hc, hok⟩)
  subst hl
  simp at e
  exact ⟨a, cap, l, e, h1, h2, hr, hq⟩

theorem tamed_ok (l : List It) (h : ∀ x ∈ l, x.ok) : ∀ x ∈ tamed l, x.ok ∧ x.tame := by
  intro x hx
  simp only [tamed, List.mem_map] at hx
  obtain ⟨y, hy, rfl⟩ := hx
  have := h y (List.mem_of_mem_take hy)
  unfold tame1
  split
  · rename_i hk
    exact ⟨this, .inr hk⟩
  · exact ⟨this, .inl rfl⟩

set_option maxHeartbeats 1000000 in
theorem PackPuts_walk (v : Value) (w : World) {b : Nat} (hv : Value.okWide Try.prog w .any b 22 v) (h : Op Try.prog w 22 v.cells.toList) :
    Calls Try.prog 3 #[v] w fun e w' => e = .returned (.bool true) ∧ Below w.heap.size w w' := by
  obtain ⟨a, n, cap, rfl⟩ := okWide_slice Try.underlying22 hv
  obtain ⟨a', cap', l, e, hlc, hcm, hrd, hok⟩ := op_items h
  injection e with e1 e2 e3
  subst e1 e2 e3
  have htm := tamed_ok l hok
  have hT := Lib.hid (And.intro hrd (And.intro hok htm))
  have hplain := Lib.hid (fold_written (tamed l) [] fun x hx => (htm x hx).2)
  clear hrd hok htm h hv
  unfold maxLen at hcm
  go_enter Try.func3, Try.ntmps3
  go_wp2_with fail
  refine (awake_true w).mono ?_
  rintro e w1 ⟨rfl, k1⟩
  go_wp2_with fail
  refine (tame_any l a cap w1 hlc hcm (hT.out.1.step0 k1)).mono ?_
  rintro e w2 ⟨a2, c2, rfl, r2, k2⟩
  go_wp2_with fail
  have hlen : Hid ((tamed l).length ≤ 9223372036854775807) := by show _ ≤ _; have := r2.le; have := r2.max; unfold maxLen at this; omega
  refine (put_items (tamed l) a2 c2 w2 hlen.out r2.rd (fun x hx => (hT.out.2.2 x hx).1)).mono ?_
  rintro e w3 ⟨p, S, rfl, h3, k3⟩
  go_wp2_with fail
  refine (bytes_any p S _ w3 h3).mono ?_
  rintro e w4 ⟨rfl, k4⟩
  go_wp2_with fail
  have k24 := (k3.trans (k4.keep S)).drop (S'' := []) (by simp)
  refine (written_any (tamed l) a2 c2 w4 hlen.out ((r2.rd.step0 k24)) (fun x hx => (hT.out.2.2 x hx).1)).mono ?_
  rintro e w5 ⟨rfl, k5⟩
  go_wp2_with fail
  refine (num_nil 1 w5 (by omega)).mono ?_
  rintro e w6 ⟨rfl, k6⟩
  go_wp2_with fail
  refine (text_nil [97] w6 (by simp)).mono ?_
  rintro e w7 ⟨rfl, k7⟩
  go_wp2_with fail
  refine (flag_nil true w7).mono ?_
  rintro e w8 ⟨rfl, k8⟩
  go_wp2_with fail
  refine (bytes_nil w8).mono ?_
  rintro e w9 ⟨rfl, rfl⟩
  rw [hplain.out]
  go_wp2_with fail
  go_ret
  refine ⟨by simp, ?_⟩
  exact ((((((k1.trans (k2.drop (by simp))).trans k24).trans k5).trans k6).trans k7).trans k8).below0

set_option maxRecDepth 100000 in
theorem PackPuts_lifted (os : Os) (started : os.Started) (H : Type) (enc : TypeId × Value → H) :
    ReturnsInHanded {} Try.checked os 3 .any (Rows.packPutsSpec.pre6 enc Try.prog Try.f3 Rows.packPutsRow.domain false) (Rows.packPutsSpec.post enc Try.prog Try.f3 false true false false) := by
  refine returnsInHanded_of_change_sized (C := Try.checked) (by kernel_rfl) started (by kernel_rfl) Try.func3
    (ChangeSpec.witness6 (enc := enc) (C := Try.checked) false ⟨#[], #[.slice none 0 0], []⟩ 8 (by kernel_rfl) (by kernel_rfl) (by kernel_rfl) (by kernel_rfl)) ?_
  intro W base args ds gs before hval0 hW hcnd hsz0 _
  have hval : ∀ (j : Nat) t v, Try.f3.params[j]? = some t → args[j]? = some v → Value.okWide Try.prog W .any base t v := hval0
  have hsz : (DataW.weightsEach Try.prog (Try.f3.params.toList ++ Rows.packPutsSpec.plain.varTypes Try.prog) (ds ++ gs)).all (· ≤ reachBytes) = true := hsz0
  have hW' := hW
  obtain ⟨p, q, hA0, hV, rfl, hfz, hnd⟩ := hW
  have hA : DataW.TrodAll enc Try.prog W 0 (fun _ => true) true Try.f3.params.toList args.toList ds p := hA0
  rw [Try.params3] at hA hval hsz
  obtain ⟨v0, vs0, d0, ds0, p0, q0, hargs, rfl, rfl, h0, r0⟩ := trodAll_cons hA
  obtain ⟨rfl, rfl, rfl⟩ := trodAll_nil r0
  obtain rfl : args = #[v0] := by cases args; simp_all
  obtain ⟨rfl, rfl⟩ := trodVars_none hV
  have lt0 : ∀ x ∈ p0, x.block < W.heap.size := by obtain ⟨m, hm⟩ := h0; exact DataW.trod_lt m _ _ _ hm
  have o0 := op_of hsz (j := 0) rfl rfl h0
  refine (PackPuts_walk v0 W (hval 0 _ v0 rfl rfl) o0).mono fun e W' ⟨he, bel⟩ => ?_
  subst he
  exact ⟨_, rfl, _, _, _, [], _, [], hW', trodAll_mk1 (shut_bool Try.underlying4 _), (trodAll_cons_mk (Below.trod (by kernel_rfl) (by kernel_rfl) (of_decide_eq_true (by kernel_rfl)) h0 bel lt0) trodAll_mk0), rfl, bel.frame _, fun h => by cases h⟩

/-- The statement. -/
theorem PackPuts_holds : Rows.PackPutsSaid :=
  OpenClaim.holds_of_wide 3 Try.f3 rfl rfl rfl rfl rfl rfl rfl ⟨rfl, rfl, rfl, rfl, rfl⟩ rfl rfl rfl rfl rfl (by kernel_rfl) Try.func3 (by kernel_rfl)
    (of_decide_eq_true (by kernel_rfl)) (by unfold Func.isWrapper; rw [if_neg (of_decide_eq_false (by kernel_rfl))]; exact ⟨rfl, rfl⟩)
    (fun os started H enc _ => PackPuts_lifted os started H enc)
#print axioms PackPuts_holds
end Go.Proofs.Ytjdmigoindhdnaa
