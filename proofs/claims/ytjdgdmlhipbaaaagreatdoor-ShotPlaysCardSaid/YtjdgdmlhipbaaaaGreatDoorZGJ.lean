/-
  Chapter 6: the law's awake; an event that comes in, opened. Condition: utf8's tables as Go lays them.
-/
import Derived.Test.YtjdgdmlhipbaaaaGreatDoorZGA
import Derived.Test.YtjdgdmlhipbaaaaGreatDoorZGN
import Derived.Test.YtjdgdmlhipbaaaaGreatDoorZGM
import Derived.Test.YtjdgdmlhipbaaaaGreatDoorZGI
import Derived.Test.YtjdgdmlhipbaaaaGreatDoorZShAwake
import Derived.Test.YtjdgdmlhipbaaaaGreatDoorTie
import Derived.Test.YtjdgdmlhipbaaaaGreatDoorCards
import Derived.Lib.LaidTab
import Derived.Lib.LaidU8
import Derived.Shelf.Vars
import Derived.HandedShaped
import Derived.Lay
import Derived.LaidMore
import Derived.MakeChecks
import Derived.SevenTiedAt
namespace Go.Proofs.YtjdgdmlhipbaaaaGreatDoor
open Go.RowKit Go.Maps Go.ChangeShapes Go.WideShapes Go.ChangeAt
set_option linter.unusedSimpArgs false
set_option linter.unusedVariables false
set_option maxRecDepth 100000


/-- An event. -/
structure OpE where
  k : Int
  n : List UInt8
  s : List UInt8
  m : Int
  ks : List Int
  ka : Option Addr
  kc : Nat
structure OpB (w : World) (o : OpE) : Prop where
  n : o.n.length ≤ 140737488351232
  s : o.s.length ≤ 140737488351232
  m : -9223372036854775808 ≤ o.m ∧ o.m < 9223372036854775808
  ks : o.ks.length ≤ maxLen
  rd : Rd w 1 o.ka o.ks.length (o.ks.map (Value.int .i64))
theorem Op.fieldD {P : Program} {w : World} {t : TypeId} {cs : List Value} {fs : Array Field} (ht : P.underlying t = some (.struct fs)) (h : Op P w t cs) (i off : Nat) (T : TypeId) (hf : (fs[i]?).map (fun f => (f.offset, f.type)) = some (off, T)) : Op P w T ((cs.drop off).take (P.cellsOf T)) := by
  cases hfi : fs[i]? with
  | none => simp [hfi] at hf
  | some f =>
    simp only [hfi, Option.map_some, Option.some.injEq, Prod.mk.injEq] at hf
    have := (h.struct ht).2 i f hfi
    rwa [hf.1, hf.2] at this
theorem wf_d {x : Int} (h : (Lit.int .i64 x).wf = true) : -9223372036854775808 ≤ x ∧ x < 9223372036854775808 := by
  simp [Lit.wf, IntKind.min, IntKind.max, IntKind.signed, IntKind.bits] at h
  omega
theorem op_ints {w : World} {cs : List Value} (h : Op Tryz.prog w 34 cs) : ∃ (l : List Int) (a : Option Addr) (cap : Nat), cs = [.slice a l.length cap] ∧ l.length ≤ cap ∧ cap ≤ maxLen ∧ Rd w 1 a l.length (l.map (Value.int .i64)) := by
  obtain ⟨a, n, cap, e, h1, h2, h3, h4⟩ := h.slice Tryz.underlying34 (sz := 1) (by kernel_rfl)
  obtain ⟨l, hl, hr, hq⟩ := rd_of (w := w) (fun x : Int => [Value.int .i64 x]) 1 (by omega) (fun _ => rfl) (a := a) (n := n) (fun _ => True) (fun i hi => by
    obtain ⟨cs', hlen, ⟨ad, hx, hc⟩, hop⟩ := h4 i hi
    obtain ⟨x, e2, _⟩ := hop.int Tryz.underlying3
    subst e2
    exact ⟨x, ⟨ad, hx, hc⟩, trivial⟩)
  subst hl
  have hm : (l.flatMap fun x : Int => [Value.int .i64 x]) = l.map (Value.int .i64) := by
    clear hr h4 e h1 hq
    induction l with
    | nil => rfl
    | cons x r ih => rw [List.flatMap_cons, ih]; rfl
  rw [hm] at hr
  exact ⟨l, a, cap, e, h1, h2, hr⟩
end Go.Proofs.YtjdgdmlhipbaaaaGreatDoor
namespace Go.Proofs.YtjdgdmlhipbaaaaGreatDoor
open Go.RowKit Go.Lib
set_option linter.unusedSimpArgs false
set_option linter.unusedVariables false

structure LTabs (w : World) : Prop where
  pow : PTab w
  u8 : Tabs w
theorem LTabs.step {w w' : World} {S : List Nat} (h : LTabs w) (k : Step [] S w w') : LTabs w' := ⟨h.pow.step k, h.u8.step k⟩
abbrev scrLaid : List (String × DataW Unit) := [("math/bits.deBruijn32tab", Rows.laid_math_bits_deBruijn32tab), ("math/bits.deBruijn64tab", Rows.laid_math_bits_deBruijn64tab), ("internal/strconv.uint64pow10", Rows.laid_internal_strconv_uint64pow10), ("unicode/utf8.acceptRanges", Rows.laid_unicode_utf8_acceptRanges), ("unicode/utf8.first", Rows.laid_unicode_utf8_first)]
theorem pow_eq : (Rows.laid_internal_strconv_uint64pow10 : DataW Unit) = tabData .u64 pow10Tab := by kernel_rfl
theorem stabs_of {W : World} (hL : laidMetH Tryz.prog scrLaid W) (hs : W.ShapedOpen Tryz.prog) : LTabs W := by
  rw [MakeChecks.laidMetH_plain _ _ _ (by kernel_rfl)] at hL
  refine ⟨?_, utf8Tabs_of_readsT (ρ := Tryz.lays197_ren) (U8Types.of260 { Tryz.lays197 with }) ⟨by kernel_rfl, by kernel_rfl, by kernel_rfl, by kernel_rfl, by kernel_rfl, by kernel_rfl, by kernel_rfl⟩
    (first_eq ▸ laidMet.reads hL (.tail _ (.tail _ (.tail _ (.tail _ (.head _)))))) (accept_eq ▸ laidMet.reads hL (.tail _ (.tail _ (.tail _ (.head _)))))⟩
  obtain ⟨g', t', cs, fuel, p, hg', ht', hvar, hd⟩ := laidMet.reads hL (.tail _ (.tail _ (.head _)))
  rw [pow_eq] at hd
  obtain rfl := Option.some.inj ((show Tryz.prog.globalNamed "internal/strconv.uint64pow10" = some 2 by kernel_rfl).symm.trans hg')
  obtain rfl := Option.some.inj ((show (Tryz.prog.globals[2]?).map (·.type) = some 167 by kernel_rfl).symm.trans ht')
  unfold PTab TabIs
  rw [hvar, ← cells_of_tab (n := 20) Tryz.underlying167 Tryz.underlying76 (by kernel_rfl) (by kernel_rfl) hd]
section
variable {H : Type} {enc : TypeId × Value → H}
theorem returnsInHanded_of_change_tabs {a : Assume} {C : Checked} {os : Os} {f : FuncId} {fn : Func} {s : ChangeSpec} {conds : List PathCond} {apart fresh handsOn again : Bool} {X : World → Array Value → Prop}
    (hX : ∀ (w w' : World) (args : Array Value), w.heap = w'.heap → X w args → X w' args)
    (own : ownKnob C.prog.godebug = none) (started : os.Started) (noInit : C.prog.inits.idxOf? f = none) (hfn : C.prog.funcs[f]? = some fn)
    (witness : ∃ (w : World) (tape : Tape) (i : Input), w.os = os ∧ (w.forCall tape i).Shaped C.prog ∧ i.vars = [] ∧ Input.okWide C.prog (w.forCall tape i) .any w.heap.size f i ∧
      ((s.pre enc C.prog fn conds apart (w.forCall tape i).memory i.args ∧ X (w.forCall tape i).memory i.args) ∧ sizedMet enc C.prog fn (OpenSpec.ofChange s) apart (w.forCall tape i).memory i.args) ∧ a.holds C.prog (lone (Frame.enter C.prog f i.args .normal) [] (w.forCall tape i)))
    (contract : ∀ (W : World) (base : Nat) (args : Array Value) (ds gs : List (DataW H)) (before : List MemPlace),
      (∀ (j : Nat) t v, fn.params[j]? = some t → args[j]? = some v → Value.okWide C.prog W .any base t v) →
      DataW.Whole enc C.prog fn.params.toList s.vars apart W args.toList ds gs before →
      conds.all (PathCond.test C.prog ⟨fn.params.toList, ds, s.plain.varTypes C.prog, gs⟩) = true →
      (DataW.weightsEach C.prog (fn.params.toList ++ s.plain.varTypes C.prog) (ds ++ gs)).all (· ≤ reachBytes) = true → X W args → W.ShapedOpen C.prog →
      a.holds C.prog (lone (Frame.enter C.prog f args .normal) [] W) →
      Calls C.prog f args W fun e W' => ∃ v, e = .returned v ∧ s.post enc C.prog fn apart fresh handsOn again W args v W') :
    ReturnsInHanded a C os f .any (fun w args => (s.pre enc C.prog fn conds apart w args ∧ X w args) ∧ sizedMet enc C.prog fn (OpenSpec.ofChange s) apart w args) (s.post enc C.prog fn apart fresh handsOn again) := by
  refine returnsInHanded_of_calls own started noInit witness ?_
  intro w tape i _ hsh _ hok hpre hholds
  obtain ⟨_, _, _, fn', hfn', _, _, _, _, hval⟩ := hok
  have e : fn' = fn := Option.some.inj (hfn'.symm.trans hfn)
  subst e
  obtain ⟨⟨⟨ds, gs, before, hw, hc⟩, hx⟩, hz⟩ := hpre
  have hw' := DataW.Whole.of_heap (w' := w.forCall tape i) (by rfl) hw
  refine (contract (w.forCall tape i) w.heap.size i.args ds gs before hval hw' hc (hz.weights hw) (hX _ _ _ (by rfl) hx) hsh hholds).mono fun e W' ⟨v, he, hp⟩ => ?_
  subst he
  exact ChangeSpec.post_blind hp
end
end Go.Proofs.YtjdgdmlhipbaaaaGreatDoor
namespace Go.Proofs.YtjdgdmlhipbaaaaGreatDoor
open Go.RowKit Go.Maps
set_option linter.unusedSimpArgs false
set_option linter.unusedVariables false
set_option maxRecDepth 100000

end Go.Proofs.YtjdgdmlhipbaaaaGreatDoor
namespace Go.Proofs.YtjdgdmlhipbaaaaGreatDoor
open Go.RowKit Go.Lib Go.ChangeShapes Go.WideShapes Go.ChangeAt
set_option linter.unusedSimpArgs false
set_option linter.unusedVariables false
set_option maxRecDepth 100000


end Go.Proofs.YtjdgdmlhipbaaaaGreatDoor
namespace Go.Proofs.YtjdgdmlhipbaaaaGreatDoor
open Go.RowKit Go.Lib Go.ChangeShapes Go.WideShapes Go.ChangeAt
set_option linter.unusedSimpArgs false
set_option linter.unusedVariables false
set_option maxRecDepth 100000

structure SnB (s : Sn) : Prop where
  i : -9223372036854775808 ≤ s.i ∧ s.i < 9223372036854775808
  t : -9223372036854775808 ≤ s.t ∧ s.t < 9223372036854775808
  dt : s.dt.length ≤ 140737488351232
theorem op_sn {w : World} {cs : List Value} (h : Op Tryz.prog w 33 cs) : ∃ o : Sn, cs = snc o ∧ SnB o := by
  obtain ⟨hl, _⟩ := h.struct Tryz.underlying33
  rw [show Tryz.prog.cellsOf 33 = 3 by kernel_rfl] at hl
  obtain ⟨c0, c1, c2, rfl⟩ : ∃ a0 a1 a2, cs = [a0, a1, a2] := by
    match cs, hl with
    | [a0, a1, a2], _ => exact ⟨a0, a1, a2, rfl⟩
  have g0 := h.field Tryz.underlying33 0 3 rfl (by kernel_rfl) rfl
  have g1 := h.field Tryz.underlying33 1 3 rfl (by kernel_rfl) rfl
  have g2 := h.field Tryz.underlying33 2 9 rfl (by kernel_rfl) rfl
  obtain ⟨x0, e0, w0⟩ := g0.int Tryz.underlying3
  obtain ⟨x1, e1, w1⟩ := g1.int Tryz.underlying3
  obtain ⟨x2, e2, w2⟩ := g2.str Tryz.underlying9
  simp only [List.cons.injEq, and_true] at e0 e1 e2
  subst e0 e1 e2
  exact ⟨⟨x0, x1, x2⟩, rfl, ⟨wf_d w0, wf_d w1, w2⟩⟩
set_option maxHeartbeats 4000000 in
theorem ref08Right_any (s : Sn) (w : World) (hl : s.dt.length ≤ 140737488351232) : Calls Tryz.prog 31 #[snV s] w fun e w' => e = .returned (.bool (rightSn s)) ∧ Step [] [] w w' := by
  have H00 : Hid (Blk (w.alloc (.cells (snc s).toArray 33)) w.heap.size 33 (snc s).toArray ∧ Step [] [] w (w.alloc (.cells (snc s).toArray 33))) := Lib.hid ⟨Blk.new w _ _, (Step.refl [] w).alloc _⟩
  go_enter Tryz.func31, Tryz.ntmps31
  go_upto_region 1 with fail
  change Code.wp _ _ _ _ (w.alloc (.cells (snc s).toArray 33))
  obtain ⟨b, hb⟩ : ∃ b, b = w.heap.size := ⟨_, rfl⟩
  obtain ⟨V, hV⟩ : ∃ V, V = (w.alloc (.cells (snc s).toArray 33)) := ⟨_, rfl⟩
  rw [← hV, ← hb] at H00
  have H0 := H00
  rw [← hV]
  try rw [← hb]
  clear hV hb H00
  have fc := H0.out.1.cell
  have f0 := fc 0
  have f1 := fc 1
  have f2 := fc 2
  clear fc
  simp only [snc, List.getElem?_toArray, List.getElem?_cons_zero, List.getElem?_cons_succ] at f0 f1 f2
  by_cases h1 : 0 ≤ s.i
  · have d1 : decide (0 ≤ s.i) = true := decide_eq_true h1
    by_cases h2 : s.i ≤ 1099511627776
    · have d2 : decide (s.i ≤ 1099511627776) = true := decide_eq_true h2
      by_cases h3 : 0 ≤ s.t
      · have d3 : decide (0 ≤ s.t) = true := decide_eq_true h3
        by_cases h4 : s.t ≤ 1099511627776
        · have d4 : decide (s.t ≤ 1099511627776) = true := decide_eq_true h4
          by_cases h5 : s.dt.length ≤ 1048576
          · have d5 : decide ((s.dt.length : Int) ≤ 1048576) = true := decide_eq_true (by omega)
            have HF : Hid (rightSn s = true) := Lib.hid (by unfold rightSn; rw [d1, d2, d3, d4, decide_eq_true h5]; rfl)
            go_wp2_with fail
            exact bodyPost_ret (results_tmp rfl _ _ _) rfl ⟨by rw [HF.out]; rfl, H0.out.2⟩
          · have d5 : decide ((s.dt.length : Int) ≤ 1048576) = false := decide_eq_false (by omega)
            have HF : Hid (rightSn s = false) := Lib.hid (by unfold rightSn; rw [d1, d2, d3, d4, decide_eq_false h5]; rfl)
            go_wp2_with fail
            exact bodyPost_ret (results_tmp rfl _ _ _) rfl ⟨by rw [HF.out]; rfl, H0.out.2⟩
        · have d4 : decide (s.t ≤ 1099511627776) = false := decide_eq_false h4
          have HF : Hid (rightSn s = false) := Lib.hid (by unfold rightSn; rw [d1, d2, d3, d4]; rfl)
          go_wp2_with fail
          exact bodyPost_ret (results_tmp rfl _ _ _) rfl ⟨by rw [HF.out]; rfl, H0.out.2⟩
      · have d3 : decide (0 ≤ s.t) = false := decide_eq_false h3
        have HF : Hid (rightSn s = false) := Lib.hid (by unfold rightSn; rw [d1, d2, d3]; rfl)
        go_wp2_with fail
        exact bodyPost_ret (results_tmp rfl _ _ _) rfl ⟨by rw [HF.out]; rfl, H0.out.2⟩
    · have d2 : decide (s.i ≤ 1099511627776) = false := decide_eq_false h2
      have HF : Hid (rightSn s = false) := Lib.hid (by unfold rightSn; rw [d1, d2]; rfl)
      go_wp2_with fail
      exact bodyPost_ret (results_tmp rfl _ _ _) rfl ⟨by rw [HF.out]; rfl, H0.out.2⟩
  · have d1 : decide (0 ≤ s.i) = false := decide_eq_false h1
    have HF : Hid (rightSn s = false) := Lib.hid (by unfold rightSn; rw [d1]; rfl)
    go_wp2_with fail
    exact bodyPost_ret (results_tmp rfl _ _ _) rfl ⟨by rw [HF.out]; rfl, H0.out.2⟩

end Go.Proofs.YtjdgdmlhipbaaaaGreatDoor
