/-
 A client in memory: New, Seq, Tick, Ask. Condition: what a client holds is within its bounds.
-/
import Derived.Test.YtjfaplmojpldhaaZGA
import Derived.Test.YtjfaplmojpldhaaZGD
import Derived.Test.YtjfaplmojpldhaaZReqJ
import Derived.Test.YtjfaplmojpldhaaZReqX
import Derived.Deep.DeepCutAuto
import Derived.Deep.CutBlock
namespace Go.Proofs.Ytjfaplmojpldhaa
open Go.RowKit
set_option linter.unusedSimpArgs false
set_option linter.unusedVariables false
set_option maxRecDepth 100000

structure Ct where
 id : Int
 size : Int
 pat : Int
 seq : Int
 op : List UInt8
 tok : List UInt8
 target : Int
 waited : Int
 ans : An
def ctc (k : Ct) (s : Value) : List Value := [.int .i64 k.id, .int .i64 k.size, .int .i64 k.pat, .int .i64 k.seq, Str k.op, Str k.tok, .int .i64 k.target, .int .i64 k.waited, .int .i64 k.ans.client, .int .i64 k.ans.seq, .int .i64 k.ans.err, .int .i64 k.ans.rev, .bool k.ans.yes, s, Str k.ans.token]
structure CtB (k : Ct) : Prop where
 id : 1 ≤ k.id ∧ k.id ≤ 8
 size : 1 ≤ k.size ∧ k.size ≤ 7
 pat : 1 ≤ k.pat ∧ k.pat ≤ 100
 seq : 0 ≤ k.seq ∧ k.seq ≤ 1099511627776
 target : 1 ≤ k.target ∧ k.target ≤ k.size
 waited : 0 ≤ k.waited ∧ k.waited ≤ k.pat
 tok : k.tok.length ≤ 140737488351232
def okNew (i s p : Int) : Bool := decide (1 ≤ i) && decide (i ≤ 8) && decide (1 ≤ s) && decide (s ≤ 7) && decide (1 ≤ p) && decide (p ≤ 100)
theorem okNew_iff {i s p : Int} : okNew i s p = true ↔ (1 ≤ i ∧ i ≤ 8) ∧ (1 ≤ s ∧ s ≤ 7) ∧ (1 ≤ p ∧ p ≤ 100) := by simp [okNew, and_assoc]
def newC (i s p : Int) : Ct := ⟨i, s, p, 0, [], [], 1, 0, anZ⟩
theorem newC_b {i s p : Int} (h : okNew i s p = true) : CtB (newC i s p) := by
 have := okNew_iff.1 h
 exact ⟨this.1, this.2.1, this.2.2, by simp [newC], by simp only [newC]; omega, by simp only [newC]; omega, by simp [newC]⟩
def tickC (k : Ct) : Ct × (Int × List UInt8 × Bool) :=
 if k.op = [] then (k, (0, [], false))
 else if k.pat < k.waited + 1 then ({k with target := k.target.tmod k.size + 1, waited := 1}, (k.target.tmod k.size + 1, k.op, true))
 else if k.waited + 1 = 1 then ({k with waited := k.waited + 1}, (k.target, k.op, true))
 else ({k with waited := k.waited + 1}, (0, [], false))
def askX (k : Ct) (x : Cm) : Cm := {x with client := k.id, seq := k.seq + 1, token := if x.kind = 1 then [] else k.tok}
def askC (k : Ct) (x : Cm) : Ct × (List UInt8 × Int) :=
 if ¬ k.op = [] then (k, ([], 21))
 else if 1099511627776 ≤ k.seq then (k, ([], 1))
 else if isK x.kind = false then (k, ([], 1))
 else if (encC (cleanC (askX k x))).2 = 0 then ({k with seq := k.seq + 1, op := (encC (cleanC (askX k x))).1, waited := 0}, ((encC (cleanC (askX k x))).1, 0))
 else (k, ([], (encC (cleanC (askX k x))).2))
theorem tickC_b {k : Ct} (h : CtB k) : CtB (tickC k).1 := by
 obtain ⟨h1, h2, h3, h4, h5, h6, h7⟩ := h
 have t1 := Int.tmod_nonneg k.size (show 0 ≤ k.target by omega)
 have t2 := Int.tmod_lt_of_pos k.target (show 0 < k.size by omega)
 unfold tickC
 repeat' split
 ·exact ⟨h1, h2, h3, h4, h5, h6, h7⟩
 ·exact ⟨h1, h2, h3, h4, by simp only; omega, by simp only; omega, h7⟩
 ·exact ⟨h1, h2, h3, h4, h5, by simp only; omega, h7⟩
 ·exact ⟨h1, h2, h3, h4, h5, by simp only; omega, h7⟩
theorem askC_b {k : Ct} {x : Cm} (h : CtB k) : CtB (askC k x).1 := by
 obtain ⟨h1, h2, h3, h4, h5, h6, h7⟩ := h
 unfold askC
 repeat' split
 ·exact ⟨h1, h2, h3, h4, h5, h6, h7⟩
 ·exact ⟨h1, h2, h3, h4, h5, h6, h7⟩
 ·exact ⟨h1, h2, h3, h4, h5, h6, h7⟩
 ·exact ⟨h1, h2, h3, by simp only; omega, h5, by simp only; omega, h7⟩
 ·exact ⟨h1, h2, h3, h4, h5, h6, h7⟩
set_option maxHeartbeats 4000000 in
theorem new_any (i z p : Int) (w : World) : Calls Try.prog 13 #[.int .i64 i, .int .i64 z, .int .i64 p] w fun e w' => ((okNew i z p = true ∧ e = .returned (.tuple #[.pointer (some ⟨w.heap.size, 0, none⟩), .bool true]) ∧ Blk w' w.heap.size 95 (ctc (newC i z p) (.slice none 0 0)).toArray) ∨ (okNew i z p = false ∧ e = .returned (.tuple #[.pointer none, .bool false]))) ∧ Step [] [] w w' := by
 go_enter Try.func13, Try.ntmps13
 by_cases t0 : i < 1
 ·have td : decide (i < 1) = true := decide_eq_true t0
  have HV : Hid (okNew i z p = false) := Lib.hid (by cases h : okNew i z p with | false => rfl | true => have := okNew_iff.1 h; omega)
  clear t0
  go_wp2_with fail
  refine bodyPost_ret (v := .tuple #[.pointer none, .bool false]) ?_ rfl ⟨.inr ⟨HV.out, rfl⟩, Step.refl _ _⟩
  simp [results, Try.results13, go_sem]
 have t0d : decide (i < 1) = false := decide_eq_false t0
 by_cases t1 : (8 : Int) < i
 ·have td : decide ((8 : Int) < i) = true := decide_eq_true t1
  have HV : Hid (okNew i z p = false) := Lib.hid (by cases h : okNew i z p with | false => rfl | true => have := okNew_iff.1 h; omega)
  clear t1
  go_wp2_with fail
  refine bodyPost_ret (v := .tuple #[.pointer none, .bool false]) ?_ rfl ⟨.inr ⟨HV.out, rfl⟩, Step.refl _ _⟩
  simp [results, Try.results13, go_sem]
 have t1d : decide ((8 : Int) < i) = false := decide_eq_false t1
 by_cases t2 : z < 1
 ·have td : decide (z < 1) = true := decide_eq_true t2
  have HV : Hid (okNew i z p = false) := Lib.hid (by cases h : okNew i z p with | false => rfl | true => have := okNew_iff.1 h; omega)
  clear t2
  go_wp2_with fail
  refine bodyPost_ret (v := .tuple #[.pointer none, .bool false]) ?_ rfl ⟨.inr ⟨HV.out, rfl⟩, Step.refl _ _⟩
  simp [results, Try.results13, go_sem]
 have t2d : decide (z < 1) = false := decide_eq_false t2
 by_cases t3 : (7 : Int) < z
 ·have td : decide ((7 : Int) < z) = true := decide_eq_true t3
  have HV : Hid (okNew i z p = false) := Lib.hid (by cases h : okNew i z p with | false => rfl | true => have := okNew_iff.1 h; omega)
  clear t3
  go_wp2_with fail
  refine bodyPost_ret (v := .tuple #[.pointer none, .bool false]) ?_ rfl ⟨.inr ⟨HV.out, rfl⟩, Step.refl _ _⟩
  simp [results, Try.results13, go_sem]
 have t3d : decide ((7 : Int) < z) = false := decide_eq_false t3
 by_cases t4 : p < 1
 ·have td : decide (p < 1) = true := decide_eq_true t4
  have HV : Hid (okNew i z p = false) := Lib.hid (by cases h : okNew i z p with | false => rfl | true => have := okNew_iff.1 h; omega)
  clear t4
  go_wp2_with fail
  refine bodyPost_ret (v := .tuple #[.pointer none, .bool false]) ?_ rfl ⟨.inr ⟨HV.out, rfl⟩, Step.refl _ _⟩
  simp [results, Try.results13, go_sem]
 have t4d : decide (p < 1) = false := decide_eq_false t4
 by_cases t5 : (100 : Int) < p
 ·have td : decide ((100 : Int) < p) = true := decide_eq_true t5
  have HV : Hid (okNew i z p = false) := Lib.hid (by cases h : okNew i z p with | false => rfl | true => have := okNew_iff.1 h; omega)
  clear t5
  go_wp2_with fail
  refine bodyPost_ret (v := .tuple #[.pointer none, .bool false]) ?_ rfl ⟨.inr ⟨HV.out, rfl⟩, Step.refl _ _⟩
  simp [results, Try.results13, go_sem]
 have t5d : decide ((100 : Int) < p) = false := decide_eq_false t5
 have HV : Hid (okNew i z p = true) := Lib.hid (okNew_iff.2 ⟨⟨by omega, by omega⟩, ⟨by omega, by omega⟩, ⟨by omega, by omega⟩⟩)
 clear t0 t1 t2 t3 t4 t5
 go_wp2_with fail
 refine bodyPost_ret (v := .tuple #[.pointer (some ⟨w.heap.size, 0, none⟩), .bool true]) ?_ rfl ⟨.inl ⟨HV.out, rfl, ?_⟩, (Step.refl [] w).alloc _⟩
 ·simp [results, Try.results13, go_sem]
 ·exact Blk.new w _ _
theorem seqC_any (k : Ct) (s : Value) (b : Nat) (w : World) (h : Blk w b 95 (ctc k s).toArray) : Calls Try.prog 18 #[.pointer (some ⟨b, 0, none⟩)] w fun e w' => e = .returned (.int .i64 k.seq) ∧ w = w' := by
 have fc := h.cell
 have f3 := fc 3
 clear fc
 simp only [ctc, List.getElem?_toArray, List.getElem?_cons_zero, List.getElem?_cons_succ] at f3
 have fl := h.lt
 go_enter Try.func18, Try.ntmps18
 go_wp2_with fail
 exact bodyPost_ret (results_tmp rfl _ _ _) rfl ⟨rfl, rfl⟩
def TickP (k : Ct) (s : Value) (b : Nat) (w : World) (e : Ending) (w' : World) : Prop := e = .returned (.tuple #[.int .i64 (tickC k).2.1, Str (tickC k).2.2.1, .bool (tickC k).2.2.2]) ∧ Blk w' b 95 (ctc (tickC k).1 s).toArray ∧ Step [b] [b] w w'
set_option maxHeartbeats 4000000 in
theorem tick_any (k : Ct) (s : Value) (b : Nat) (w : World) (h : Blk w b 95 (ctc k s).toArray) (hB : CtB k) : Calls Try.prog 16 #[.pointer (some ⟨b, 0, none⟩)] w (TickP k s b w) := by
 have H0 := Lib.hid h
 have HB := Lib.hid hB
 clear h hB
 have fc := H0.out.cell
 have f4 := fc 4
 clear fc
 simp only [ctc, List.getElem?_toArray, List.getElem?_cons_zero, List.getElem?_cons_succ] at f4
 have fl := H0.out.lt
 go_enter Try.func16, Try.ntmps16
 by_cases ho : k.op = []
 ·have hob : (k.op == []) = true := by simp [ho]
  have HV : Hid (tickC k = (k, (0, [], false))) := Lib.hid (if_pos ho)
  clear ho
  go_wp2_with fail
  refine bodyPost_ret (v := .tuple #[.int .i64 0, .string ⟨#[]⟩, .bool false]) ?_ rfl ⟨by rw [HV.out], ?_, ?_⟩
  ·simp [results, Try.results16, go_sem]
  ·rw [HV.out]; exact H0.out
  ·exact Step.refl _ _
 ·have hob : (k.op == []) = false := by simpa using ho
  have HO := Lib.hid ho
  clear ho
  go_upto_region 3 with fail
  clear hob f4 fl
  have fc := H0.out.cell
  have f7 := fc 7
  clear fc
  simp only [ctc, List.getElem?_toArray, List.getElem?_cons_zero, List.getElem?_cons_succ] at f7
  have fl := H0.out.lt
  have ff7 := H0.out.frozen 7
  have hw : IntKind.i64.wrap (k.waited + 1) = k.waited + 1 := IntWalk.i64_in _ (by have := HB.out.waited; have := HB.out.pat; omega)
  go_upto_region 4 with fail
  clear hw
  obtain ⟨V, hV⟩ : ∃ V, V = w.setCell ⟨b, 7, none⟩ (.int .i64 (k.waited + 1)) := ⟨_, rfl⟩
  have H1 : Hid (Blk V b 95 (ctc {k with waited := k.waited + 1} s).toArray ∧ Step [b] [b] w V) := Lib.hid (by rw [hV]; exact ⟨by have hq := H0.out.set 7 (.int .i64 (k.waited + 1)); simpa [ctc] using hq, (Step.refl [b] w).setCell (.inl (by simp)) _⟩)
  rw [← hV]
  clear hV f7 fl ff7
  have fc := H1.out.1.cell
  have f2 := fc 2
  have f7 := fc 7
  clear fc
  simp only [ctc, List.getElem?_toArray, List.getElem?_cons_zero, List.getElem?_cons_succ] at f2 f7
  have fl := H1.out.1.lt
  go_cut [30] (fun v wx => v = .bool (decide (k.pat < k.waited + 1)) ∧ Hid (Blk wx b 95 (ctc {k with waited := k.waited + 1} s).toArray ∧ Step [b] [b] w wx))
  case first =>
   go_wp2_with fail
   go_quiet (fail)
   go_wp2_with fail
   go_meet
   exact ⟨rfl, Lib.hid ⟨H1.out.1, H1.out.2.drewN _⟩⟩
  case rest =>
   rename World => V1
   obtain ⟨rfl, H2⟩ := hcut
   clear H1 f2 f7 fl
   go_upto_if 30 with fail
   go_cut [] (fun wx => ∃ k2 : Ct, Hid (k2 = if k.pat < k.waited + 1 then {k with target := k.target.tmod k.size + 1, waited := 1} else {k with waited := k.waited + 1}) ∧ Hid (Blk wx b 95 (ctc k2 s).toArray ∧ Step [b] [b] w wx))
   case first =>
    by_cases hp : k.pat < k.waited + 1
    ·have hpd : decide (k.pat < k.waited + 1) = true := decide_eq_true hp
     have HP := Lib.hid hp
     clear hp
     have fc := H2.out.1.drew.cell
     have f1 := fc 1
     have f4 := fc 4
     have f6 := fc 6
     have f7 := fc 7
     clear fc
     simp only [ctc, List.getElem?_toArray, List.getElem?_cons_zero, List.getElem?_cons_succ] at f1 f4 f6 f7
     have fl := H2.out.1.drew.lt
     have ff1 := H2.out.1.drew.frozen 1
     have ff4 := H2.out.1.drew.frozen 4
     have ff6 := H2.out.1.drew.frozen 6
     have ff7 := H2.out.1.drew.frozen 7
     have hsz : ¬ k.size = 0 := by have := HB.out.size; omega
     have hm1 : IntKind.i64.wrap (k.target.tmod k.size) = k.target.tmod k.size := IntWalk.i64_in _ (by have t1 := Int.tmod_nonneg k.size (show 0 ≤ k.target by have := HB.out.target; omega); have t2 := Int.tmod_lt_of_pos k.target (show 0 < k.size by have := HB.out.size; omega); have := HB.out.size; omega)
     have hm2 : IntKind.i64.wrap (k.target.tmod k.size + 1) = k.target.tmod k.size + 1 := IntWalk.i64_in _ (by have t1 := Int.tmod_nonneg k.size (show 0 ≤ k.target by have := HB.out.target; omega); have t2 := Int.tmod_lt_of_pos k.target (show 0 < k.size by have := HB.out.size; omega); have := HB.out.size; omega)
     rw [hpd]
     go_upto_region 5 with fail
     refine still_tail 14 (by kernel_rfl) (by kernel_rfl) ?_
     simp only [List.take_succ_cons, List.take_zero, List.drop_succ_cons, List.drop_zero]
     repeat still_step
     refine wpStill_nil ?_
     go_upto_region 6 with fail
     clear hsz hm1 hm2 f1 f4 f6 f7 fl ff1 ff4 ff6 ff7
     obtain ⟨V2, hV2⟩ : ∃ V, V = (V1.setCell ⟨b, 6, none⟩ (.int .i64 (k.target.tmod k.size + 1))).drew := ⟨_, rfl⟩
     have H4 : Hid (Blk V2 b 95 (ctc {k with waited := k.waited + 1, target := k.target.tmod k.size + 1} s).toArray ∧ Step [b] [b] w V2) := Lib.hid (by rw [hV2]; exact ⟨by have hq := (H2.out.1.set 6 (.int .i64 (k.target.tmod k.size + 1))).drew; simpa [ctc] using hq, (H2.out.2.trans ((Step.refl [b] _).setCell (.inl (by simp)) _)).drew⟩)
     rw [← hV2]
     clear hV2 H2
     have fc := H4.out.1.cell
     have f7 := fc 7
     clear fc
     simp only [ctc, List.getElem?_toArray, List.getElem?_cons_zero, List.getElem?_cons_succ] at f7
     have fl := H4.out.1.lt
     have ff7 := H4.out.1.frozen 7
     go_wp2_with fail
     go_meet
     refine ⟨{k with target := k.target.tmod k.size + 1, waited := 1}, Lib.hid (by rw [if_pos (by have := HP.out; omega)]), Lib.hid ⟨?_, ?_⟩⟩
     ·have hq := H4.out.1.set 7 (.int .i64 1)
      simpa [ctc] using hq
     ·exact H4.out.2.trans ((Step.refl [b] _).setCell (.inl (by simp)) _)
    ·have hpd : decide (k.pat < k.waited + 1) = false := decide_eq_false hp
     have HP := Lib.hid hp
     clear hp
     rw [hpd]
     go_wp2_with fail
     go_meet
     exact ⟨{k with waited := k.waited + 1}, Lib.hid (by rw [if_neg (by have := HP.out; omega)]), H2⟩
   case rest =>
    rename World => V2
    obtain ⟨k2, HK, H3⟩ := hcut
    clear H2
    have fc := H3.out.1.cell
    have f4 := fc 4
    have f6 := fc 6
    have f7 := fc 7
    clear fc
    simp only [ctc, List.getElem?_toArray, List.getElem?_cons_zero, List.getElem?_cons_succ] at f4 f6 f7
    have fl := H3.out.1.lt
    have hop : k2.op = k.op := by rw [HK.out]; split <;> rfl
    by_cases h1 : k2.waited = 1
    ·have h1d : (k2.waited == 1) = true := by simp [h1]
     have HV : Hid (tickC k = (k2, (k2.target, k.op, true))) := Lib.hid (by have hk := HK.out; unfold tickC; rw [if_neg HO.out]; split at hk; (rename_i hp; rw [if_pos hp, hk]); (rename_i hp; rw [if_neg hp]; rw [hk] at h1 ⊢; rw [if_pos h1]))
     have HOP := Lib.hid hop
     clear h1 hop
     go_wp2_with fail
     go_quiet (fail)
     go_wp2_with fail
     refine bodyPost_ret (v := .tuple #[.int .i64 k2.target, Str k2.op, .bool true]) ?_ rfl ⟨by rw [HV.out, HOP.out], ?_, ?_⟩
     ·simp [results, Try.results16, go_sem]
     ·rw [HV.out]; exact H3.out.1
     ·exact H3.out.2.drewN _
    ·have h1d : (k2.waited == 1) = false := by simpa using h1
     have HV : Hid (tickC k = (k2, (0, [], false))) := Lib.hid (by have hk := HK.out; unfold tickC; rw [if_neg HO.out]; split at hk; (exfalso; rw [hk] at h1; exact h1 rfl); (rename_i hp; rw [if_neg hp]; rw [hk] at h1 ⊢; rw [if_neg h1]))
     clear h1 hop
     go_wp2_with fail
     refine bodyPost_ret (v := .tuple #[.int .i64 0, .string ⟨#[]⟩, .bool false]) ?_ rfl ⟨by rw [HV.out], ?_, ?_⟩
     ·simp [results, Try.results16, go_sem]
     ·rw [HV.out]; exact H3.out.1
     ·exact H3.out.2
theorem bodyC_iface (y : Cm) (s1 s2 s3 : Value) : ∃ T V, bodyV y s1 s2 s3 = .iface T V := by
 unfold bodyV
 repeat' split
 all_goals exact ⟨_, _, rfl⟩
def AskP (k : Ct) (x : Cm) (s : Value) (b : Nat) (w : World) (e : Ending) (w' : World) : Prop := e = .returned (.tuple #[Str (askC k x).2.1, .int .i64 (askC k x).2.2]) ∧ Blk w' b 95 (ctc (askC k x).1 s).toArray ∧ Step [b] [b] w w'
set_option maxHeartbeats 16000000 in
theorem ask_any (k : Ct) (s : Value) (b : Nat) (x : Cm) (a1 a2 a3 : Option Addr) (c1 c2 c3 : Nat) (w : World) (h : Blk w b 95 (ctc k s).toArray) (hB : CtB k) (hr : RdC w x a1 a2 a3) (hX : CmB (askX k x)) (hL : LenS x) : Calls Try.prog 14 #[.pointer (some ⟨b, 0, none⟩), cmV x (.slice a1 x.ifs.length c1) (.slice a2 x.thens.length c2) (.slice a3 x.elses.length c3)] w (AskP k x s b w) := by
 have H00 : Hid (Blk (w.alloc (.cells (cmc x (.slice a1 x.ifs.length c1) (.slice a2 x.thens.length c2) (.slice a3 x.elses.length c3)).toArray 44)) w.heap.size 44 (cmc x (.slice a1 x.ifs.length c1) (.slice a2 x.thens.length c2) (.slice a3 x.elses.length c3)).toArray ∧ Blk (w.alloc (.cells (cmc x (.slice a1 x.ifs.length c1) (.slice a2 x.thens.length c2) (.slice a3 x.elses.length c3)).toArray 44)) b 95 (ctc k s).toArray ∧ Step [] [] w (w.alloc (.cells (cmc x (.slice a1 x.ifs.length c1) (.slice a2 x.thens.length c2) (.slice a3 x.elses.length c3)).toArray 44))) := Lib.hid ⟨Blk.new w _ _, h.alloc _, (Step.refl [] w).alloc _⟩
 have HR := Lib.hid (And.intro hr (And.intro hX (And.intro hL (And.intro hB h.lt))))
 clear h hr hX hL hB
 go_enter Try.func14, Try.ntmps14
 go_upto_region 1 with fail
 change Code.wp _ _ _ _ (w.alloc (.cells (cmc x (.slice a1 x.ifs.length c1) (.slice a2 x.thens.length c2) (.slice a3 x.elses.length c3)).toArray 44))
 obtain ⟨rb, hrb⟩ : ∃ b, b = w.heap.size := ⟨_, rfl⟩
 obtain ⟨V, hV⟩ : ∃ V, V = (w.alloc (.cells (cmc x (.slice a1 x.ifs.length c1) (.slice a2 x.thens.length c2) (.slice a3 x.elses.length c3)).toArray 44)) := ⟨_, rfl⟩
 rw [← hV, ← hrb] at H00
 have H0 := H00
 rw [← hV]
 try rw [← hrb]
 have HNE : Hid (w.heap.size ≤ rb ∧ b ≠ rb) := Lib.hid ⟨by omega, by have := HR.out.2.2.2.2; omega⟩
 clear hV hrb H00
 have fc := H0.out.2.1.cell
 have f3 := fc 3
 have f4 := fc 4
 clear fc
 simp only [ctc, List.getElem?_toArray, List.getElem?_cons_zero, List.getElem?_cons_succ] at f3 f4
 have fl := H0.out.2.1.lt
 by_cases ho : k.op = []
 ·have hob : (k.op == []) = true := by simp [ho]
  have HO := Lib.hid ho
  clear ho
  by_cases hs : 1099511627776 ≤ k.seq
  ·have hsd : decide (1099511627776 ≤ k.seq) = true := decide_eq_true hs
   have HV : Hid (askC k x = (k, ([], 1))) := Lib.hid (by unfold askC; rw [if_neg (by simp [HO.out]), if_pos hs])
   clear hs
   go_wp2_with fail
   exact bodyPost_ret (results_tmp2 rfl _ _ _) rfl ⟨by rw [HV.out]; rfl, by rw [HV.out]; exact H0.out.2.1, H0.out.2.2.keep [b]⟩
  ·have hsd : decide (1099511627776 ≤ k.seq) = false := decide_eq_false hs
   have HSQ := Lib.hid hs
   clear hs
   go_upto_region 7 with fail
   clear hob hsd f3 f4 fl
   have hw : IntKind.i64.wrap (k.seq + 1) = k.seq + 1 := IntWalk.i64_in _ (by have := HR.out.2.2.2.1.seq; omega)
   have H1 : Hid (Blk V.drew rb 44 (cmc x (.slice a1 x.ifs.length c1) (.slice a2 x.thens.length c2) (.slice a3 x.elses.length c3)).toArray ∧ Blk V.drew b 95 (ctc k s).toArray ∧ Step [] [] w V.drew) := Lib.hid ⟨H0.out.1.drew, H0.out.2.1.drew, H0.out.2.2.drew⟩
   refine wp_region_held_drew (S := fun W => Hid (Blk W b 95 (ctc k s).toArray)) (by kernel_rfl) (Lib.hid H1.out.2.1) (fun hHeld => ?_)
   refine wpAnyH_take (i := 0) (v := ?_) rfl (by kernel_rfl) (by kernel_rfl) (by kernel_rfl) (fun _ _ _ h => h) (Or.inl ⟨by rfl, ?_⟩) hHeld ?_
   rotate_left
   ·intro w hSw1
    try dsimp only at hSw1
    go_simp
    try (with_reducible rfl)
   try simp only [Act.put, LsA, LsB, LsC, LsD, LsE, LsF]
   refine wpAnyH_take (i := 1) (v := ?_) rfl (by kernel_rfl) (by kernel_rfl) (by kernel_rfl) (fun _ _ _ h => h) (Or.inl ⟨by rfl, ?_⟩) hHeld ?_
   rotate_left
   ·intro w hSw1
    try dsimp only at hSw1
    go_simp
    try (with_reducible rfl)
   try simp only [Act.put, LsA, LsB, LsC, LsD, LsE, LsF]
   refine wpAnyH_take (i := 2) (v := ?_) rfl (by kernel_rfl) (by kernel_rfl) (by kernel_rfl) (fun _ _ _ h => h) (Or.inl ⟨by rfl, ?_⟩) hHeld ?_
   rotate_left
   ·intro w hSw1
    try dsimp only at hSw1
    go_simp
    try (with_reducible rfl)
   try simp only [Act.put, LsA, LsB, LsC, LsD, LsE, LsF]
   refine wpAnyH_take (i := 3) (v := ?_) rfl (by kernel_rfl) (by kernel_rfl) (by kernel_rfl) (fun _ _ _ h => h) (Or.inl ⟨by rfl, ?_⟩) hHeld ?_
   rotate_left
   ·intro w hSw1
    try dsimp only at hSw1
    go_simp
    try (with_reducible rfl)
   try simp only [Act.put, LsA, LsB, LsC, LsD, LsE, LsF]
   refine wpAnyH_take (i := 4) (v := ?_) rfl (by kernel_rfl) (by kernel_rfl) (by kernel_rfl) (fun _ _ _ h => h) (Or.inl ⟨by rfl, ?_⟩) hHeld ?_
   rotate_left
   ·intro w hSw1
    have tc := hSw1.out.cell
    have t0 := tc 0
    have t3 := tc 3
    have t5 := tc 5
    clear tc
    simp only [ctc, List.getElem?_toArray, List.getElem?_cons_zero, List.getElem?_cons_succ] at t0 t3 t5
    have tl := hSw1.out.lt
    go_simp
    try (with_reducible rfl)
   try simp only [Act.put, LsA, LsB, LsC, LsD, LsE, LsF]
   refine wpAnyH_take (i := 5) (v := ?_) rfl (by kernel_rfl) (by kernel_rfl) (by kernel_rfl) (fun _ _ _ h => h) (Or.inl ⟨by rfl, ?_⟩) hHeld ?_
   rotate_left
   ·intro w hSw1
    try dsimp only at hSw1
    go_simp
    try (with_reducible rfl)
   try simp only [Act.put, LsA, LsB, LsC, LsD, LsE, LsF]
   refine wpAnyH_take (i := 6) (v := ?_) rfl (by kernel_rfl) (by kernel_rfl) (by kernel_rfl) (fun _ _ _ h => h) (Or.inl ⟨by rfl, ?_⟩) hHeld ?_
   rotate_left
   ·intro w hSw1
    try dsimp only at hSw1
    go_simp
    try (with_reducible rfl)
   try simp only [Act.put, LsA, LsB, LsC, LsD, LsE, LsF]
   refine wpAnyH_take (i := 7) (v := ?_) rfl (by kernel_rfl) (by kernel_rfl) (by kernel_rfl) (fun _ _ _ h => h) (Or.inl ⟨by rfl, ?_⟩) hHeld ?_
   rotate_left
   ·intro w hSw1
    try dsimp only at hSw1
    go_simp
    try (with_reducible rfl)
   try simp only [Act.put, LsA, LsB, LsC, LsD, LsE, LsF]
   refine wpAnyH_take (i := 8) (v := ?_) rfl (by kernel_rfl) (by kernel_rfl) (by kernel_rfl) (fun _ _ _ h => h) (Or.inl ⟨by rfl, ?_⟩) hHeld ?_
   rotate_left
   ·intro w hSw1
    have tc := hSw1.out.cell
    have t0 := tc 0
    have t3 := tc 3
    have t5 := tc 5
    clear tc
    simp only [ctc, List.getElem?_toArray, List.getElem?_cons_zero, List.getElem?_cons_succ] at t0 t3 t5
    have tl := hSw1.out.lt
    go_simp
    try (with_reducible rfl)
   try simp only [Act.put, LsA, LsB, LsC, LsD, LsE, LsF]
   refine wpAnyH_take (i := 9) (v := ?_) rfl (by kernel_rfl) (by kernel_rfl) (by kernel_rfl) (fun _ _ _ h => h) (Or.inl ⟨by rfl, ?_⟩) hHeld ?_
   rotate_left
   ·intro w hSw1
    try dsimp only at hSw1
    go_simp
    try (with_reducible rfl)
   try simp only [Act.put, LsA, LsB, LsC, LsD, LsE, LsF]
   refine wpAnyH_take (i := 10) (v := ?_) rfl (by kernel_rfl) (by kernel_rfl) (by kernel_rfl) (fun _ _ _ h => h) (Or.inl ⟨by rfl, ?_⟩) hHeld ?_
   rotate_left
   ·intro w hSw1
    try dsimp only at hSw1
    go_simp
    try (with_reducible rfl)
   try simp only [Act.put, LsA, LsB, LsC, LsD, LsE, LsF]
   refine wpAnyH_take (i := 11) (v := ?_) rfl (by kernel_rfl) (by kernel_rfl) (by kernel_rfl) (fun _ _ _ h => h) (Or.inl ⟨by rfl, ?_⟩) hHeld ?_
   rotate_left
   ·intro w hSw1
    try dsimp only at hSw1
    go_simp
    try (with_reducible rfl)
   try simp only [Act.put, LsA, LsB, LsC, LsD, LsE, LsF]
   refine wpAnyH_take (i := 12) (v := ?_) rfl (by kernel_rfl) (by kernel_rfl) (by kernel_rfl) (fun _ _ _ h => h) (Or.inl ⟨by rfl, ?_⟩) hHeld ?_
   rotate_left
   ·intro w hSw1
    try dsimp only at hSw1
    go_simp
    try (with_reducible rfl)
   try simp only [Act.put, LsA, LsB, LsC, LsD, LsE, LsF]
   refine wpAnyH_take (i := 13) (v := ?_) rfl (by kernel_rfl) (by kernel_rfl) (by kernel_rfl) (fun _ _ _ h => h) (Or.inl ⟨by rfl, ?_⟩) hHeld ?_
   rotate_left
   ·intro w hSw1
    have tc := hSw1.out.cell
    have t0 := tc 0
    have t3 := tc 3
    have t5 := tc 5
    clear tc
    simp only [ctc, List.getElem?_toArray, List.getElem?_cons_zero, List.getElem?_cons_succ] at t0 t3 t5
    have tl := hSw1.out.lt
    go_simp
    try (with_reducible rfl)
   try simp only [Act.put, LsA, LsB, LsC, LsD, LsE, LsF]
   refine wpAnyH_take (i := 14) (v := ?_) rfl (by kernel_rfl) (by kernel_rfl) (by kernel_rfl) (fun _ _ _ h => h) (Or.inl ⟨by rfl, ?_⟩) hHeld ?_
   rotate_left
   ·intro w hSw1
    try dsimp only at hSw1
    go_simp
    try (with_reducible rfl)
   try simp only [Act.put, LsA, LsB, LsC, LsD, LsE, LsF]
   refine wpAnyH_ready (rs := [15]) (by kernel_rfl) (by simp) ?_
   refine AllReadyH.cons rfl (fun K hK => ?_) AllReadyH.nil
   have zb := H0.out.1.drew; have zf := zb.frozen 0; have zl := zb.lt; have zc := zb.cell 0; simp [cmc] at zc; clear zb; go_simp; go_wp2_with fail; clear zf zl zc
   refine hK.out _ _ (Lib.hid (H0.out.2.1.far (p := ⟨rb, 0, none⟩) HNE.out.2 (.int .i64 k.id)).drew) (fun hHeld2 => ?_)
   clear hK K hHeld
   try simp only [Act.put, LsA, LsB, LsC, LsD, LsE, LsF]
   refine wpAnyH_take (i := 16) (v := ?_) rfl (by kernel_rfl) (by kernel_rfl) (by kernel_rfl) (fun _ _ _ h => h) (Or.inl ⟨by rfl, ?_⟩) hHeld2 ?_
   rotate_left
   ·intro w hSw1
    try dsimp only at hSw1
    go_simp
    try (with_reducible rfl)
   try simp only [Act.put, LsA, LsB, LsC, LsD, LsE, LsF]
   refine wpAnyH_ready (rs := [17]) (by kernel_rfl) (by simp) ?_
   refine AllReadyH.cons rfl (fun K hK => ?_) AllReadyH.nil
   have zb := (H0.out.1.set 0 (.int .i64 k.id)).drew; have zf := zb.frozen 1; have zl := zb.lt; have zc := zb.cell 1; simp [cmc] at zc; clear zb; go_simp; go_wp2_with fail; clear zf zl zc
   refine hK.out _ _ (Lib.hid ((H0.out.2.1.far (p := ⟨rb, 0, none⟩) HNE.out.2 (.int .i64 k.id)).far (p := ⟨rb, 1, none⟩) HNE.out.2 (.int .i64 (k.seq + 1))).drew) (fun hHeld3 => ?_)
   clear hK K hHeld2
   try simp only [Act.put, LsA, LsB, LsC, LsD, LsE, LsF]
   refine wpAnyH_take (i := 18) (v := ?_) rfl (by kernel_rfl) (by kernel_rfl) (by kernel_rfl) (fun _ _ _ h => h) (Or.inl ⟨by rfl, ?_⟩) hHeld3 ?_
   rotate_left
   ·intro w hSw1
    try dsimp only at hSw1
    go_simp
    try (with_reducible rfl)
   try simp only [Act.put, LsA, LsB, LsC, LsD, LsE, LsF]
   refine wpAnyH_ready (rs := [19]) (by kernel_rfl) (by simp) ?_
   refine AllReadyH.cons rfl (fun K hK => ?_) AllReadyH.nil
   have zb := ((H0.out.1.set 0 (.int .i64 k.id)).set 1 (.int .i64 (k.seq + 1))).drew; have zf := zb.frozen 2; have zl := zb.lt; have zc := zb.cell 2; simp [cmc] at zc; clear zb; go_simp; go_wp2_with fail; clear zf zl zc
   refine hK.out _ _ (Lib.hid (((H0.out.2.1.far (p := ⟨rb, 0, none⟩) HNE.out.2 (.int .i64 k.id)).far (p := ⟨rb, 1, none⟩) HNE.out.2 (.int .i64 (k.seq + 1))).far (p := ⟨rb, 2, none⟩) HNE.out.2 (Str k.tok)).drew) (fun hHeld4 => ?_)
   clear hK K hHeld3
   try simp only [Act.put, LsA, LsB, LsC, LsD, LsE, LsF]
   refine wpAnyH_done (by kernel_rfl) ?_ _
   obtain ⟨V2, hV2⟩ : ∃ U, U = (((V.setCell ⟨rb, 0, none⟩ (.int .i64 k.id)).setCell ⟨rb, 1, none⟩ (.int .i64 (k.seq + 1))).setCell ⟨rb, 2, none⟩ (Str k.tok)).drew := ⟨_, rfl⟩
   have H2 : Hid (Blk V2 rb 44 (cmc ({x with client := k.id, seq := k.seq + 1, token := k.tok} : Cm) (.slice a1 x.ifs.length c1) (.slice a2 x.thens.length c2) (.slice a3 x.elses.length c3)).toArray ∧ Blk V2 b 95 (ctc k s).toArray ∧ Step [] [] w V2) := Lib.hid (by rw [hV2]; exact ⟨by have hq := (((H0.out.1.set 0 (.int .i64 k.id)).set 1 (.int .i64 (k.seq + 1))).set 2 (Str k.tok)).drew; simpa [cmc] using hq, (((H0.out.2.1.far (p := ⟨rb, 0, none⟩) HNE.out.2 _).far (p := ⟨rb, 1, none⟩) HNE.out.2 _).far (p := ⟨rb, 2, none⟩) HNE.out.2 _).drew, (H0.out.2.2.own ((((Step.refl [rb] _).setCell (.inl (by simp)) _).setCell (.inl (by simp)) _).setCell (.inl (by simp)) _) HNE.out.1).drew⟩)
   rw [← hV2]
   clear hV2 H1 H0
   have mc := H2.out.1.cell
   have m2 := mc 2
   have m3 := mc 3
   clear mc
   simp only [cmc, List.getElem?_toArray, List.getElem?_cons_zero, List.getElem?_cons_succ] at m2 m3
   have ml := H2.out.1.lt
   have mf2 := H2.out.1.frozen 2
   have mf3 := H2.out.1.frozen 3
   go_upto_if 44 with fail
   go_cut [] (fun wx => Hid (Blk wx rb 44 (cmc (askX k x) (.slice a1 x.ifs.length c1) (.slice a2 x.thens.length c2) (.slice a3 x.elses.length c3)).toArray ∧ Blk wx b 95 (ctc k s).toArray ∧ Step [] [] w wx))
   case first =>
    by_cases hk : x.kind = 1
    ·have hkb : (x.kind == 1) = true := by simp [hk]
     have HK := Lib.hid hk
     clear hk
     go_wp2_with fail
     go_meet
     exact Lib.hid ⟨by have hq := H2.out.1.set 2 (Str []); simpa [cmc, askX, HK.out] using hq, H2.out.2.1.far (p := ⟨rb, 2, none⟩) HNE.out.2 _, H2.out.2.2.own ((Step.refl [rb] _).setCell (.inl (by simp)) _) HNE.out.1⟩
    ·have hkb : (x.kind == 1) = false := by simpa using hk
     have HK := Lib.hid hk
     clear hk
     go_wp2_with fail
     go_meet
     exact Lib.hid ⟨by have hq := H2.out.1; simpa [cmc, askX, HK.out] using hq, H2.out.2⟩
   case rest =>
    rename World => V3
    have H3 := hcut
    clear H2 m2 m3 ml mf2 mf3
    have HY : Hid (RdC V3 (askX k x) a1 a2 a3) := Lib.hid (by have h := HR.out.1.step H3.out.2.2; exact ⟨h.i, h.t, h.e⟩)
    cases hik : isK x.kind with
    | false =>
     have HV : Hid (askC k x = (k, ([], 1))) := Lib.hid (by unfold askC; rw [if_neg (by simp [HO.out]), if_neg (by have := HSQ.out; omega), if_pos hik])
     have HIK := Lib.hid hik
     clear hik
     go_wp2_with (refine wpList_loadRow (T := 44) (b := rb) (T' := 44) (cs := (cmc (askX k x) (.slice a1 x.ifs.length c1) (.slice a2 x.thens.length c2) (.slice a3 x.elses.length c3)).toArray) rfl (.tmp 3) rfl rfl Try.sCmd H3.out.1 ?_)
     refine (of_none (askX k x) a1 a2 a3 c1 c2 c3 V3 HIK.out).mono ?_
     rintro e X1 ⟨rfl, kk⟩
     have H4 := Lib.hid (And.intro (H3.out.2.1.step kk (by simp)) (H3.out.2.2.trans kk))
     clear kk
     go_wp2_with fail
     exact bodyPost_ret (results_tmp2 rfl _ _ _) rfl ⟨by rw [HV.out]; rfl, by rw [HV.out]; exact H4.out.1.alloc _, (H4.out.2.alloc _).keep [b]⟩
    | true =>
     have HIK := Lib.hid hik
     clear hik
     go_wp2_with (refine wpList_loadRow (T := 44) (b := rb) (T' := 44) (cs := (cmc (askX k x) (.slice a1 x.ifs.length c1) (.slice a2 x.thens.length c2) (.slice a3 x.elses.length c3)).toArray) rfl (.tmp 3) rfl rfl Try.sCmd H3.out.1 ?_)
     refine (of_any (askX k x) a1 a2 a3 c1 c2 c3 V3 HIK.out HY.out ⟨Nat.le_trans HR.out.2.2.1.i (by omega), Nat.le_trans HR.out.2.2.1.t (by omega), Nat.le_trans HR.out.2.2.1.e (by omega)⟩).mono ?_
     rintro e X1 ⟨v, rfl, hm, kk⟩
     obtain ⟨y, hy⟩ : ∃ y, y = cleanC (askX k x) := ⟨_, rfl⟩
     have HYY := Lib.hid hy
     rw [← hy] at hm
     obtain ⟨q1, q2, q3, q4, q5, q6, hv, hvr⟩ := hm.at_
     obtain ⟨T, u, hu⟩ := bodyC_iface y (.slice q1 y.ifs.length q2) (.slice q3 y.thens.length q4) (.slice q5 y.elses.length q6)
     have hv2 : v = .agg #[.int .i64 y.client, .int .i64 y.seq, Str y.token, .iface T u] := by rw [hv, hu]
     clear hv hvr hu
     subst hv2
     have H4 : Hid (Blk X1 rb 44 (cmc (askX k x) (.slice a1 x.ifs.length c1) (.slice a2 x.thens.length c2) (.slice a3 x.elses.length c3)).toArray ∧ Blk X1 b 95 (ctc k s).toArray ∧ Step [] [] w X1 ∧ IsReq X1 y (.agg #[.int .i64 y.client, .int .i64 y.seq, Str y.token, .iface T u])) := Lib.hid ⟨H3.out.1.step kk (by simp), H3.out.2.1.step kk (by simp), H3.out.2.2.trans kk, hm⟩
     clear kk hm hy H3
     go_upto_region 11 with fail
     have k9 := (Step.refl [] X1).alloc (.cells #[.int .i64 y.client, .int .i64 y.seq, .string ⟨y.token.toArray⟩, .iface T u] 99)
     have b9 := Blk.new X1 99 #[.int .i64 y.client, .int .i64 y.seq, .string ⟨y.token.toArray⟩, .iface T u]
     obtain ⟨tb, htb⟩ : ∃ b8, b8 = X1.heap.size := ⟨_, rfl⟩
     obtain ⟨V4, hV4⟩ : ∃ V8, V8 = X1.alloc (.cells #[.int .i64 y.client, .int .i64 y.seq, .string ⟨y.token.toArray⟩, .iface T u] 99) := ⟨_, rfl⟩
     rw [← hV4] at k9 b9 ⊢
     rw [← htb] at b9 ⊢
     clear htb hV4
     have H5 : Hid (Blk V4 rb 44 (cmc (askX k x) (.slice a1 x.ifs.length c1) (.slice a2 x.thens.length c2) (.slice a3 x.elses.length c3)).toArray ∧ Blk V4 b 95 (ctc k s).toArray ∧ Step [] [] w V4 ∧ IsReq V4 y (.agg #[.int .i64 y.client, .int .i64 y.seq, Str y.token, .iface T u]) ∧ Blk V4 tb 99 #[.int .i64 y.client, .int .i64 y.seq, .string ⟨y.token.toArray⟩, .iface T u]) := Lib.hid ⟨H4.out.1.step k9 (by simp), H4.out.2.1.step k9 (by simp), H4.out.2.2.1.trans k9, H4.out.2.2.2.step k9, b9⟩
     clear k9 b9 H4
     have gc := H5.out.2.2.2.2.cell
     have g0 := gc 0
     have g1 := gc 1
     have g2 := gc 2
     have g3 := gc 3
     clear gc
     simp only [List.getElem?_nil, List.getElem?_toArray, List.getElem?_cons_zero, List.getElem?_cons_succ] at g0 g1 g2 g3
     have gl := H5.out.2.2.2.2.lt
     have HYB : Hid (CmB y ∧ LenS y) := Lib.hid ⟨by rw [HYY.out]; exact HR.out.2.1.clean, by rw [HYY.out]; exact LenS.clean (x := askX k x) ⟨HR.out.2.2.1.i, HR.out.2.2.1.t, HR.out.2.2.1.e⟩⟩
     go_wp2_with fail
     refine (encode_any H5.out.2.2.2.1 HYB.out.1 HYB.out.2).mono ?_
     rintro e V5 ⟨rfl, k5⟩
     have H6 : Hid (Blk V5 rb 44 (cmc (askX k x) (.slice a1 x.ifs.length c1) (.slice a2 x.thens.length c2) (.slice a3 x.elses.length c3)).toArray ∧ Blk V5 b 95 (ctc k s).toArray ∧ Step [] [] w V5) := Lib.hid ⟨H5.out.1.step k5 (by simp), H5.out.2.1.step k5 (by simp), H5.out.2.2.1.trans k5⟩
     clear k5 H5 g0 g1 g2 g3 gl
     obtain ⟨⟨es, ee⟩, hse⟩ : ∃ p, p = encC y := ⟨_, rfl⟩
     rw [← hse]
     have HSE : Hid (encC (cleanC (askX k x)) = (es, ee)) := Lib.hid (by rw [← HYY.out]; exact hse.symm)
     clear hse
     by_cases h0 : ee = 0
     ·subst h0
      have HV : Hid (askC k x = ({k with seq := k.seq + 1, op := es, waited := 0}, (es, 0))) := Lib.hid (by unfold askC; rw [if_neg (by simp [HO.out]), if_neg (by have := HSQ.out; omega), if_neg (by rw [HIK.out]; simp), HSE.out]; exact if_pos rfl)
      have mc := H6.out.1.cell
      have m1 := mc 1
      clear mc
      simp only [cmc, askX, List.getElem?_toArray, List.getElem?_cons_zero, List.getElem?_cons_succ] at m1
      have ml := H6.out.1.lt
      have fc := H6.out.2.1.cell
      have f3 := fc 3
      have f4 := fc 4
      have f7 := fc 7
      clear fc
      simp only [ctc, List.getElem?_toArray, List.getElem?_cons_zero, List.getElem?_cons_succ] at f3 f4 f7
      have fl := H6.out.2.1.lt
      have ff3 := H6.out.2.1.frozen 3
      have ff4 := H6.out.2.1.frozen 4
      have ff7 := H6.out.2.1.frozen 7
      go_wp2_with fail
      refine bodyPost_ret (results_tmp2 rfl _ _ _) rfl ⟨by rw [HV.out]; rfl, ?_, ?_⟩
      ·rw [HV.out]
       have hq := ((H6.out.2.1.set 3 (.int .i64 (k.seq + 1))).set 4 (Str es)).set 7 (.int .i64 0)
       simpa [ctc] using hq
      ·exact (H6.out.2.2.keep [b]).trans ((((Step.refl [b] _).setCell (.inl (by simp)) _).setCell (.inl (by simp)) _).setCell (.inl (by simp)) _)
     ·have h0d : (ee == 0) = false := by simp [h0]
      have HV : Hid (askC k x = (k, ([], ee))) := Lib.hid (by unfold askC; rw [if_neg (by simp [HO.out]), if_neg (by have := HSQ.out; omega), if_neg (by rw [HIK.out]; simp), HSE.out]; exact if_neg h0)
      clear h0
      go_wp2_with fail
      exact bodyPost_ret (results_tmp2 rfl _ _ _) rfl ⟨by rw [HV.out]; rfl, by rw [HV.out]; exact H6.out.2.1, H6.out.2.2.keep [b]⟩
 ·have hob : (k.op == []) = false := by simpa using ho
  have HV : Hid (askC k x = (k, ([], 21))) := Lib.hid (if_pos ho)
  clear ho
  go_wp2_with fail
  exact bodyPost_ret (results_tmp2 rfl _ _ _) rfl ⟨by rw [HV.out]; rfl, by rw [HV.out]; exact H0.out.2.1, H0.out.2.2.keep [b]⟩
end Go.Proofs.Ytjfaplmojpldhaa
