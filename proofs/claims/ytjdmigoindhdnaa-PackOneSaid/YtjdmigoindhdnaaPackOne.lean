/-
  PackOne, proved: what can be read as some numbers and texts to its end is written just so. For every input; no condition beyond the form's own.
-/
import Derived.Test.YtjdmigoindhdnaaPackOnePlain
import Derived.Test.YtjdmigoindhdnaaMem2
import Derived.Test.YtjdmigoindhdnaaOpen
namespace Go.Proofs.Ytjdmigoindhdnaa
open Go.RowKit Go.ChangeShapes Go.WideShapes Go.ChangeAt
set_option linter.unusedSimpArgs false
set_option linter.unusedVariables false

/-- The loop's state. -/
def OneAt (s : List UInt8) (w : World) (q p : Nat) (wr : World) : Prop :=
  ∃ S rs ws, Rdr wr q rs ∧ Wr wr p S ws ∧ q ∉ S ∧ Step [] ([q] ++ S) w wr ∧ OneInv s rs ws

set_option maxRecDepth 100000 in
set_option maxHeartbeats 4000000 in
theorem one_small (s : List UInt8) (ts : List Bool) (a : Option Addr) (cap : Nat) (w : World) (hs : s.length ≤ 100000) (hl : ts.length ≤ 9223372036854775807) (hrd : Rd w 1 a ts.length (ts.map .bool)) :
    Calls Try.prog 5 #[Str s, .slice a ts.length cap] w fun e w' => e = .returned (.bool true) ∧ Below w.heap.size w w' := by
  have HT := Lib.hid hrd
  clear hrd
  go_enter Try.func5, Try.ntmps5
  go_wp2_with fail
  refine (awake_true w).mono ?_
  rintro e w1 ⟨rfl, k1⟩
  go_wp2_with fail
  refine (read_any s w1).mono ?_
  rintro e w2 ⟨rfl, hw2⟩
  have H2 : Hid (Rdr w2 w1.heap.size ⟨s, false⟩ ∧ Step [] [w1.heap.size] w w2 ∧ w1.heap.size < w2.heap.size) := by
    subst hw2
    exact ⟨Blk.new _ _ _, k1.hold _, by simp⟩
  clear hw2 k1
  go_wp2_with fail
  have hat : Hid (OneAt s w w1.heap.size w2.heap.size (w2.alloc (.cells #[.slice none 0 0, .int .i64 0] 44))) := by
    obtain ⟨h1, h2, h3⟩ := H2.out
    refine ⟨[w2.heap.size], ⟨s, false⟩, ⟨[], 0⟩, Blk.alloc h1 _, ⟨none, 0, Blk.new _ _ _, Row.none _ _, by simp [blks], rfl, by simp⟩, by simp; omega, ?_, hs, .inr ⟨rfl, rfl⟩⟩
    exact (h2.hold _).drop (by simp)
  generalize w1.heap.size = q at *
  generalize w2.heap.size = p at *
  clear H2
  go_loopw [7] (fun i wr => ∃ k : Nat, k ≤ ts.length ∧ i = .int .i64 k ∧ Hid (OneAt s w q p wr)) (fun i _ => ts.length - (intOf i).toNat)
  case atStart => exact ⟨0, by omega, rfl, hat.out⟩
  case round =>
    obtain ⟨k, hk, rfl, H⟩ := hrel
    obtain ⟨S, rs, ws, hr, hw, hqS, hst, hinv⟩ := H.out
    have hrl := hinv.1
    have HH := Lib.hid (And.intro hr (And.intro hw (And.intro hqS (And.intro hst hinv))))
    clear hr hw hqS hst hinv H
    by_cases hlt : k < ts.length
    · have hlt' : (k : Int) < (ts.length : Int) := by omega
      by_cases hleft : 0 < rs.s.length
      · obtain ⟨g, off, hg⟩ := HT.out.some_ (by omega)
        subst hg
        have hx : (ts.map Value.bool)[k]? = some (.bool ts[k]) := by simp [hlt]
        have c0 := (HT.out.below (HH.out.2.2.2.1.below0) (by intro b hb; simp [blks] at hb; subst hb; exact World.block_lt_of_cell? _ _ (HT.out.cell _ _ _ rfl k _ hx))).cell g off none rfl k _ hx
        clear hx
        generalize ts[k] = b at *
        go_wp2_with fail
        refine (left_any q rs wr HH.out.1).mono ?_
        rintro e w3 ⟨rfl, rfl⟩
        cases b with
        | true =>
          go_wp2_with fail
          refine (rtext_any q rs 2097152 wr HH.out.1 (by omega)).mono ?_
          rintro e w3 ⟨rfl, h3, k3⟩
          go_wp2_with fail
          have hlen := (rtext_len rs 2097152).1
          refine (text_any p S ws _ w3 (HH.out.2.1.step k3 (by intro g hg; simp; rintro rfl; exact HH.out.2.2.1 hg)) (by omega)).mono ?_
          rintro e w4 ⟨rfl, S4, h4, k4⟩
          have hq3 := Blk.lt h3
          go_wp2_with fail
          go_roundw
          case rel => exact ⟨k + 1, by omega, by go_num, S4, _, _, Rdr.step h3 k4 HH.out.2.2.1, h4, k4.notin hq3 HH.out.2.2.1, HH.out.2.2.2.1.trans ((k3.frameR S).trans (k4.frame [q])), one_text s rs ws hs HH.out.2.2.2.2⟩
          case measure => simp [intOf]; omega
        | false =>
          go_wp2_with fail
          refine (rnum_any q rs wr HH.out.1 (by omega)).mono ?_
          rintro e w3 ⟨rfl, h3, k3⟩
          go_wp2_with fail
          have hle := Lib.hid (upto_le rs 4611686018427387903)
          refine (num_any p S ws _ (by have := hle.out; show (upto rs 4611686018427387903).1 < _; omega) w3 (HH.out.2.1.step k3 (by intro g hg; simp; rintro rfl; exact HH.out.2.2.1 hg))).mono ?_
          rintro e w4 ⟨rfl, S4, h4, k4⟩
          have hq3 := Blk.lt h3
          go_wp2_with fail
          go_roundw
          case rel => exact ⟨k + 1, by omega, by go_num, S4, _, _, Rdr.step h3 k4 HH.out.2.2.1, h4, k4.notin hq3 HH.out.2.2.1, HH.out.2.2.2.1.trans ((k3.frameR S).trans (k4.frame [q])), one_num s rs ws hs HH.out.2.2.2.2⟩
          case measure => simp [intOf]; omega
      · go_wp2_with fail
        refine (left_any q rs wr HH.out.1).mono ?_
        rintro e w3 ⟨rfl, rfl⟩
        go_wp2_with fail
        refine (end_any q rs wr HH.out.1).mono ?_
        rintro e w4 ⟨rfl, rfl⟩
        by_cases he : rend rs = 0
        · have hb := Lib.hid (one_end s rs ws HH.out.2.2.2.2 he)
          rw [he]
          clear he
          go_wp2_with fail
          refine (bytes_any p S ws wr HH.out.2.1).mono ?_
          rw [hb.out]
          rintro e w5 ⟨rfl, k5⟩
          go_wp2_with fail
          go_ret
          exact ⟨by simp, (HH.out.2.2.2.1.below0).trans (k5.below0.mono HH.out.2.2.2.1.size)⟩
        · have he' : (rend rs == 0) = false := by simpa using he
          clear he
          go_wp2_with fail
          go_ret
          exact ⟨rfl, HH.out.2.2.2.1.below0⟩
    · go_wp2_with fail
      refine (end_any q rs wr HH.out.1).mono ?_
      rintro e w4 ⟨rfl, rfl⟩
      by_cases he : rend rs = 0
      · have hb := Lib.hid (one_end s rs ws HH.out.2.2.2.2 he)
        rw [he]
        clear he
        go_wp2_with fail
        refine (bytes_any p S ws wr HH.out.2.1).mono ?_
        rw [hb.out]
        rintro e w5 ⟨rfl, k5⟩
        go_wp2_with fail
        go_ret
        exact ⟨by simp, (HH.out.2.2.2.1.below0).trans (k5.below0.mono HH.out.2.2.2.1.size)⟩
      · have he' : (rend rs == 0) = false := by simpa using he
        clear he
        go_wp2_with fail
        go_ret
        exact ⟨rfl, HH.out.2.2.2.1.below0⟩

set_option maxHeartbeats 400000 in
theorem one_great (s : List UInt8) (v : Value) (w : World) (hs : 100000 < s.length) : Calls Try.prog 5 #[Str s, v] w fun e w' => e = .returned (.bool true) ∧ Below w.heap.size w w' := by
  go_enter Try.func5, Try.ntmps5
  go_wp2_with fail
  refine (awake_true w).mono ?_
  rintro e w1 ⟨rfl, k1⟩
  go_wp2_with fail
  go_ret
  exact ⟨rfl, k1.below0⟩

theorem flat_bools (ts : List Bool) : ts.flatMap (fun b : Bool => [Value.bool b]) = ts.map .bool := by
  induction ts with
  | nil => rfl
  | cons b ts ih => rw [List.flatMap_cons, ih]; rfl

theorem PackOne_walk (v0 v1 : Value) (w : World) {b0 b1 : Nat} (hv0 : Value.okWide Try.prog w .any b0 9 v0) (h0 : Op Try.prog w 9 v0.cells.toList) (hv1 : Value.okWide Try.prog w .any b1 39 v1) (h1 : Op Try.prog w 39 v1.cells.toList) :
    Calls Try.prog 5 #[v0, v1] w fun e w' => e = .returned (.bool true) ∧ Below w.heap.size w w' := by
  obtain ⟨s, rfl⟩ := okWide_string Try.underlying9 hv0
  obtain ⟨a, n, cap, rfl⟩ := okWide_slice Try.underlying39 hv1
  obtain ⟨l, e, _⟩ := h0.str Try.underlying9
  simp [Value.cells] at e
  subst e
  obtain ⟨a', n', cap', e, g1, g2, g3, g4⟩ := h1.slice Try.underlying39 (sz := 1) (by kernel_rfl)
  simp [Value.cells] at e
  obtain ⟨rfl, rfl, rfl⟩ := e
  obtain ⟨ts, hts, hrd, _⟩ := rd_of (w := w) (fun b : Bool => [Value.bool b]) 1 (by omega) (fun _ => rfl) (fun _ => True) (n := n) (a := a) (fun i hi => by
    obtain ⟨cs', hl', hc, ho⟩ := g4 i hi
    obtain ⟨b, hb⟩ := ho.bool Try.underlying4
    subst hb
    exact ⟨b, hc, trivial⟩)
  subst hts
  rw [flat_bools] at hrd
  rcases Nat.lt_or_ge 100000 l.length with h | h
  · exact one_great l _ w h
  · exact one_small l ts a cap w h (by unfold maxLen at g2; omega) hrd

set_option maxRecDepth 100000 in
theorem PackOne_lifted (os : Os) (started : os.Started) (H : Type) (enc : TypeId × Value → H) :
    ReturnsInHanded {} Try.checked os 5 .any (Rows.packOneSpec.pre6 enc Try.prog Try.f5 Rows.packOneRow.domain false) (Rows.packOneSpec.post enc Try.prog Try.f5 false true false false) := by
  refine returnsInHanded_of_change_sized (C := Try.checked) (by kernel_rfl) started (by kernel_rfl) Try.func5
    (ChangeSpec.witness6 (enc := enc) (C := Try.checked) false ⟨#[], #[.string ⟨#[]⟩, .slice none 0 0], []⟩ 8 (by kernel_rfl) (by kernel_rfl) (by kernel_rfl) (by kernel_rfl)) ?_
  intro W base args ds gs before hval0 hW hcnd hsz0 _
  have hval : ∀ (j : Nat) t v, Try.f5.params[j]? = some t → args[j]? = some v → Value.okWide Try.prog W .any base t v := hval0
  have hsz : (DataW.weightsEach Try.prog (Try.f5.params.toList ++ Rows.packOneSpec.plain.varTypes Try.prog) (ds ++ gs)).all (· ≤ reachBytes) = true := hsz0
  have hW' := hW
  obtain ⟨p, q, hA0, hV, rfl, hfz, hnd⟩ := hW
  have hA : DataW.TrodAll enc Try.prog W 0 (fun _ => true) true Try.f5.params.toList args.toList ds p := hA0
  rw [Try.params5] at hA hval hsz
  obtain ⟨v0, vs0, d0, ds0, p0, q0, hargs, rfl, rfl, h0, r0⟩ := trodAll_cons hA
  obtain ⟨v1, vs1, d1, ds1, p1, q1, rfl, rfl, rfl, h1, r1⟩ := trodAll_cons r0
  obtain ⟨rfl, rfl, rfl⟩ := trodAll_nil r1
  obtain rfl : args = #[v0, v1] := by cases args; simp_all
  obtain ⟨rfl, rfl⟩ := trodVars_none hV
  have lt0 : ∀ x ∈ p0, x.block < W.heap.size := by obtain ⟨m, hm⟩ := h0; exact DataW.trod_lt m _ _ _ hm
  have o0 := op_of hsz (j := 0) rfl rfl h0
  have lt1 : ∀ x ∈ p1, x.block < W.heap.size := by obtain ⟨m, hm⟩ := h1; exact DataW.trod_lt m _ _ _ hm
  have o1 := op_of hsz (j := 1) rfl rfl h1
  refine (PackOne_walk v0 v1 W (hval 0 _ v0 rfl rfl) o0 (hval 1 _ v1 rfl rfl) o1).mono fun e W' ⟨he, bel⟩ => ?_
  subst he
  exact ⟨_, rfl, _, _, _, [], _, [], hW', trodAll_mk1 (shut_bool Try.underlying4 _), (trodAll_cons_mk (Below.trod (by kernel_rfl) (by kernel_rfl) (of_decide_eq_true (by kernel_rfl)) h0 bel lt0) (trodAll_cons_mk (Below.trod (by kernel_rfl) (by kernel_rfl) (of_decide_eq_true (by kernel_rfl)) h1 bel lt1) trodAll_mk0)), rfl, bel.frame _, fun h => by cases h⟩

/-- The statement. -/
theorem PackOne_holds : Rows.PackOneSaid :=
  OpenClaim.holds_of_wide 5 Try.f5 rfl rfl rfl rfl rfl rfl rfl ⟨rfl, rfl, rfl, rfl, rfl⟩ rfl rfl rfl rfl rfl (by kernel_rfl) Try.func5 (by kernel_rfl)
    (of_decide_eq_true (by kernel_rfl)) (by unfold Func.isWrapper; rw [if_neg (of_decide_eq_false (by kernel_rfl))]; exact ⟨rfl, rfl⟩)
    (fun os started H enc _ => PackOne_lifted os started H enc)
#print axioms PackOne_holds
end Go.Proofs.Ytjdmigoindhdnaa
