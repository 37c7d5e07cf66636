/-
  Chapter 6: the law's awake; an event that comes in, opened. Condition: utf8's tables as Go lays them.
-/
import Derived.Test.YtfkjgkgflkhbnaaDoorDkU
import Derived.Test.YtfkjgkgflkhbnaaDoorNameTabs
namespace Go.Proofs.YtfkjgkgflkhbnaaDoor
open Go.RowKit Go.Maps Go.ChangeShapes Go.WideShapes Go.ChangeAt
set_option linter.unusedSimpArgs false
set_option linter.unusedVariables false
set_option maxRecDepth 100000


def NewP (room : Int) (w : World) (e : Ending) (w' : World) : Prop := ∃ S' d, e = .returned (.tuple #[.pointer (some ⟨d, 0, none⟩), .int .i64 0]) ∧ Dk w' S' d (newS room) ∧ Step [] S' w w'
theorem new_ok (room : Int) (w : World) (h : okRoom room = true) : Calls Tryd.prog 9 #[.int .i64 room] w (NewP room w) := by
  refine (new_any room w).mono ?_
  rintro e w' (⟨_, h⟩ | ⟨h2, _⟩)
  · exact h
  · rw [h] at h2; cases h2
def ew0 : St := ⟨[], 100, -1, false⟩
def ew1 : St := ⟨[⟨[97], [], [120, 121]⟩], 100, -1, false⟩
def ew2 : St := ⟨[⟨[97], [120, 121], []⟩], 100, -1, false⟩
def ew3 : St := ⟨[⟨[97], [120, 121], [122]⟩], 100, -1, false⟩
def ew4 : St := ⟨[⟨[97], [120, 121], []⟩], 100, -1, false⟩
theorem ew_b0 : StB ew0 := ⟨by decide, by decide, by decide, by decide⟩
theorem ew_b1 : StB ew1 := ⟨by decide, by decide, by decide, by decide⟩
theorem ew_b2 : StB ew2 := ⟨by decide, by decide, by decide, by decide⟩
theorem ew_b3 : StB ew3 := ⟨by decide, by decide, by decide, by decide⟩
theorem ew_b4 : StB ew4 := ⟨by decide, by decide, by decide, by decide⟩
theorem ew_1 : appendS ew0 [97] [120, 121] = (0, ew1) := by kernel_rfl
theorem ew_2 : syncS ew1 [97] = (0, ew2) := by kernel_rfl
theorem ew_3 : appendS ew2 [97] [122] = (0, ew3) := by kernel_rfl
theorem ew_4 : crashS ew3 [0] = ew4 := by kernel_rfl
theorem ew_5 : readS ew4 [97] = ([120, 121], 0) := by kernel_rfl
theorem awake06_true (w : World) (hT : Tabs w) : Calls Tryd.prog 8 #[] w fun e w' => e = .returned (.bool true) ∧ Step [] [] w w' := by
  have HT := Lib.hid hT
  clear hT
  go_enter Tryd.func8, Tryd.ntmps8
  go_wp2_with fail
  refine (new_ok 100 w (by decide)).mono ?_
  rintro e w1 ⟨S1, d, rfl, hd1, st1⟩
  have H1 : Hid (Dk w1 S1 d ew0 ∧ Step [] S1 w w1) := Lib.hid ⟨hd1, st1⟩
  clear hd1 st1
  go_wp2_with fail
  have hc := append_any [97] [120, 121] w1 S1 d ew0 H1.out.1 ew_b0 (HT.out.step H1.out.2) (by decide)
  rw [ew_1] at hc
  refine hc.mono ?_
  rintro e w2 ⟨rfl, S2, hd2, st2⟩
  have H2 : Hid (Dk w2 S2 d ew1 ∧ Step [] S2 w w2) := Lib.hid ⟨hd2, H1.out.2.trans st2⟩
  clear hd2 st2 hc
  go_wp2_with fail
  have hc := sync_any [97] w2 S2 d ew1 H2.out.1 ew_b1 (by decide)
  rw [ew_2] at hc
  refine hc.mono ?_
  rintro e w3 ⟨rfl, S3, hd3, st3⟩
  have H3 : Hid (Dk w3 S3 d ew2 ∧ Step [] S3 w w3) := Lib.hid ⟨hd3, H2.out.2.trans st3⟩
  clear hd3 st3 hc
  go_wp2_with fail
  have hc := append_any [97] [122] w3 S3 d ew2 H3.out.1 ew_b2 (HT.out.step H3.out.2) (by decide)
  rw [ew_3] at hc
  refine hc.mono ?_
  rintro e w4 ⟨rfl, S4, hd4, st4⟩
  have H4 : Hid (Dk w4 S4 d ew3 ∧ Step [] S4 w w4) := Lib.hid ⟨hd4, H3.out.2.trans st4⟩
  clear hd4 st4 hc
  go_wp2_with fail
  have hc := crash_any [0] (w4.alloc (.cells #[.int .i64 0] 3)) S4 d ew3 (some ⟨w4.heap.size, 0, none⟩) 1 (H4.out.1.keep ((Step.refl [] w4).alloc _)) ew_b3 (rd_blk' (xs := [.int .i64 0]) (Blk.new w4 _ _) 1 1 rfl) (by intro _ g hg hm; simp [blks] at hg; have := H4.out.1.lt g hm; omega) (by unfold maxLen; decide)
  refine hc.mono ?_
  rintro e w5 ⟨rfl, hd5, st5⟩
  rw [ew_4] at hd5
  have H5 : Hid (Dk w5 S4 d ew4 ∧ Step [] S4 w w5) := Lib.hid ⟨hd5, (H4.out.2.alloc _).trans st5⟩
  clear hd5 st5 hc
  go_wp2_with fail
  have hc := read_any [97] w5 S4 d ew4 H5.out.1 ew_b4 (by decide)
  rw [ew_5] at hc
  refine hc.mono ?_
  rintro e w6 ⟨rfl, st6⟩
  have H6 : Hid (Step [] [] w w6) := Lib.hid ((H5.out.2.trans (st6.keep S4)).drop (by simp))
  clear st6 hc
  go_wp2_with fail
  exact bodyPost_ret (results_tmp rfl _ _ _) rfl ⟨rfl, H6.out⟩
/-- An event. -/
structure OpE where
  k : Int
  n : List UInt8
  s : List UInt8
  m : Int
  ks : List Int
  ka : Option Addr
  kc : Nat
def opc (o : OpE) : List Value := [.int .i64 o.k, Str o.n, Str o.s, .int .i64 o.m, .slice o.ka o.ks.length o.kc]
structure OpB (w : World) (o : OpE) : Prop where
  n : o.n.length ≤ 140737488351232
  s : o.s.length ≤ 140737488351232
  m : -9223372036854775808 ≤ o.m ∧ o.m < 9223372036854775808
  ks : o.ks.length ≤ maxLen
  rd : Rd w 1 o.ka o.ks.length (o.ks.map (Value.int .i64))
theorem Op.fieldD {P : Program} {w : World} {t : TypeId} {cs : List Value} {fs : Array Field} (ht : P.underlying t = some (.struct fs)) (h : Op P w t cs) (i off : Nat) (T : TypeId) (hf : (fs[i]?).map (fun f => (f.offset, f.type)) = some (off, T)) : Op P w T ((cs.drop off).take (P.cellsOf T)) := by
  cases hfi : fs[i]? with
  | none => simp [hfi] at hf
  | some f =>
    simp only [hfi, Option.map_some, Option.some.injEq, Prod.mk.injEq] at hf
    have := (h.struct ht).2 i f hfi
    rwa [hf.1, hf.2] at this
theorem wf_d {x : Int} (h : (Lit.int .i64 x).wf = true) : -9223372036854775808 ≤ x ∧ x < 9223372036854775808 := by
  simp [Lit.wf, IntKind.min, IntKind.max, IntKind.signed, IntKind.bits] at h
  omega
theorem op_ints {w : World} {cs : List Value} (h : Op Tryd.prog w 24 cs) : ∃ (l : List Int) (a : Option Addr) (cap : Nat), cs = [.slice a l.length cap] ∧ l.length ≤ cap ∧ cap ≤ maxLen ∧ Rd w 1 a l.length (l.map (Value.int .i64)) := by
  obtain ⟨a, n, cap, e, h1, h2, h3, h4⟩ := h.slice Tryd.underlying24 (sz := 1) (by kernel_rfl)
  obtain ⟨l, hl, hr, hq⟩ := rd_of (w := w) (fun x : Int => [Value.int .i64 x]) 1 (by omega) (fun _ => rfl) (a := a) (n := n) (fun _ => True) (fun i hi => by
    obtain ⟨cs', hlen, ⟨ad, hx, hc⟩, hop⟩ := h4 i hi
    obtain ⟨x, e2, _⟩ := hop.int Tryd.underlying3
    subst e2
    exact ⟨x, ⟨ad, hx, hc⟩, trivial⟩)
  subst hl
  have hm : (l.flatMap fun x : Int => [Value.int .i64 x]) = l.map (Value.int .i64) := by
    clear hr h4 e h1 hq
    induction l with
    | nil => rfl
    | cons x r ih => rw [List.flatMap_cons, ih]; rfl
  rw [hm] at hr
  exact ⟨l, a, cap, e, h1, h2, hr⟩
theorem op_ev {w : World} {cs : List Value} (h : Op Tryd.prog w 49 cs) : ∃ o : OpE, cs = opc o ∧ OpB w o := by
  obtain ⟨hl, _⟩ := h.struct Tryd.underlying49
  rw [show Tryd.prog.cellsOf 49 = 5 by kernel_rfl] at hl
  obtain ⟨c0, c1, c2, c3, c4, rfl⟩ : ∃ a0 a1 a2 a3 a4, cs = [a0, a1, a2, a3, a4] := by
    match cs, hl with
    | [a0, a1, a2, a3, a4], _ => exact ⟨a0, a1, a2, a3, a4, rfl⟩
  have g0 := h.field Tryd.underlying49 0 3 rfl (by kernel_rfl) rfl
  have g1 := h.field Tryd.underlying49 1 9 rfl (by kernel_rfl) rfl
  have g2 := h.field Tryd.underlying49 2 9 rfl (by kernel_rfl) rfl
  have g3 := h.field Tryd.underlying49 3 3 rfl (by kernel_rfl) rfl
  have g4 := h.field Tryd.underlying49 4 24 rfl (by kernel_rfl) rfl
  obtain ⟨x0, e0, w0⟩ := g0.int Tryd.underlying3
  obtain ⟨x1, e1, w1⟩ := g1.str Tryd.underlying9
  obtain ⟨x2, e2, w2⟩ := g2.str Tryd.underlying9
  obtain ⟨x3, e3, w3⟩ := g3.int Tryd.underlying3
  obtain ⟨l, a, cap, e4, h1, h2, h3⟩ := op_ints g4
  simp only [List.cons.injEq, and_true] at e0 e1 e2 e3 e4
  subst e0 e1 e2 e3 e4
  exact ⟨⟨x0, x1, x2, x3, l, a, cap⟩, rfl, ⟨w1, w2, wf_d w3, Nat.le_trans h1 h2, h3⟩⟩
theorem okWide_aggD {P : Program} {w : World} {r : Reach} {base : Nat} {t : TypeId} {fs : Array Field} {v : Value} (ht : P.underlying t = some (.struct fs)) (h : Value.okWide P w r base t v) : ∃ cs, v = .agg cs ∧ cs.size = P.cellsOf t := by
  simp only [Value.okWide, ht] at h
  obtain ⟨cs, h1, h2, _⟩ := h
  exact ⟨cs, h1, h2⟩
/-- A list of texts that comes in. -/
theorem op_strs {w : World} {cs : List Value} (h : Op Tryd.prog w 22 cs) : ∃ (l : List (List UInt8)) (a : Option Addr) (cap : Nat), cs = [.slice a l.length cap] ∧ l.length ≤ cap ∧ cap ≤ maxLen ∧ Rd w 1 a l.length (l.map fun x => Str x) ∧ ∀ x ∈ l, x.length ≤ 140737488351232 := by
  obtain ⟨a, n, cap, e, h1, h2, h3, h4⟩ := h.slice Tryd.underlying22 (sz := 1) (by kernel_rfl)
  obtain ⟨l, hl, hr, hq⟩ := rd_of (w := w) (fun x : List UInt8 => [Str x]) 1 (by omega) (fun _ => rfl) (a := a) (n := n) (fun x => x.length ≤ 140737488351232) (fun i hi => by
    obtain ⟨cs', hlen, ⟨ad, hx, hc⟩, hop⟩ := h4 i hi
    obtain ⟨x, e2, hx2⟩ := hop.str Tryd.underlying9
    subst e2
    exact ⟨x, ⟨ad, hx, hc⟩, hx2⟩)
  subst hl
  have hm : (l.flatMap fun x : List UInt8 => [Str x]) = l.map fun x => Str x := by
    clear hr h4 e h1 hq
    induction l with
    | nil => rfl
    | cons x r ih => rw [List.flatMap_cons, ih]; rfl
  rw [hm] at hr
  exact ⟨l, a, cap, e, h1, h2, hr, hq⟩

end Go.Proofs.YtfkjgkgflkhbnaaDoor
