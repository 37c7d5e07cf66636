/-
 The reference's client in memory: New, Tick, Ask, Hear: it does what the program's does. Condition: what a client holds is within its bounds.
-/
import Derived.Test.YtjfaplmojpldhaaZCliPlain2
import Derived.Test.YtjfaplmojpldhaaZReqV
namespace Go.Proofs.Ytjfaplmojpldhaa
open Go.RowKit
set_option linter.unusedSimpArgs false
set_option linter.unusedVariables false
set_option maxRecDepth 100000

def rtb (o : Bool) (k : Ct) (s : Value) : List Value := [.int .i64 k.id, .int .i64 k.size, .int .i64 k.pat, .int .i64 k.seq, .bool o, Str k.op, Str k.tok, .int .i64 k.target, .int .i64 k.waited, .int .i64 k.ans.client, .int .i64 k.ans.seq, .int .i64 k.ans.err, .int .i64 k.ans.rev, .bool k.ans.yes, s, Str k.ans.token]
def rtc (k : Ct) (s : Value) : List Value := rtb (!k.op.isEmpty) k s
theorem isE_yes {l : List UInt8} (h : l = []) : (!l.isEmpty) = false := by rw [h]; rfl
theorem isE_no {l : List UInt8} (h : ¬ l = []) : (!l.isEmpty) = true := by cases l with | nil => exact absurd rfl h | cons => rfl
theorem refBq_enc (k : Ct) (x : Cm) (hL : LenS x) : refBq (askX k x) = if isK x.kind = false then ([], 1) else encC (cleanC (askX k x)) := by
 unfold refBq
 cases h : isK x.kind with
 | true =>
  rw [if_pos (show isK (askX k x).kind = true from h), if_neg (by simp)]
  have hk : isK (askX k x).kind = true := h
  exact refB_enc _ (by rw [clean_kind hk]; exact hk) (clean_twice hk) (LenS.clean (x := askX k x) ⟨hL.i, hL.t, hL.e⟩)
 | false => rw [if_neg (by rw [show isK (askX k x).kind = false from h]; simp), if_pos rfl]
theorem askC_ref {k : Ct} (x : Cm) (h : k.op = []) (hs : ¬ 1099511627776 ≤ k.seq) (hL : LenS x) : askC k x = if (refBq (askX k x)).2 = 0 then ({k with seq := k.seq + 1, op := (refBq (askX k x)).1, waited := 0}, ((refBq (askX k x)).1, 0)) else (k, ([], (refBq (askX k x)).2)) := by
 unfold askC
 rw [if_neg (by simp [h]), if_neg hs, refBq_enc k x hL]
 split
 ·rfl
 ·rfl
theorem ask_some {k : Ct} (x : Cm) {es : List UInt8} (h : k.op = []) (hv : askC k x = ({k with seq := k.seq + 1, op := es, waited := 0}, (es, 0))) : ¬ es = [] := by
 rcases ask_cases x h with ⟨fs, h1, h2⟩ | ⟨e, h1, h2⟩
 ·rw [hv] at h2
  have := congrArg (fun p => p.2.1) h2
  simp only at this
  rw [this]
  exact h1
 ·rw [hv] at h2
  have := congrArg (fun p => p.2.2) h2
  simp only at this
  exact absurd this.symm h1
/-- Hear, as the reference has it. -/
def noteK (k : Ct) (t : List UInt8) : Ct := if (rdNote t).2.2 = true then hearN k (rdNote t).1 (rdNote t).2.1 else k
theorem hear_some {k : Ct} {t : List UInt8} {x : An} (h : ¬ k.op = []) (hd : decA t = some x) : noteK k t = k ∧ hearC k t = if x.client = k.id ∧ x.seq = k.seq then (hearA k x, true) else (k, false) := by
 have hn : (rdNote t).2.2 = false := by
  cases hb : (rdNote t).2.2 with
  | false => rfl
  | true =>
   have := note_ans (s := t) (e := (rdNote t).1) (l := (rdNote t).2.1) (by rw [← hb])
   rw [hd] at this
   cases this
 refine ⟨by unfold noteK; rw [hn, if_neg (by simp)], ?_⟩
 unfold hearC
 rw [if_neg h, hn, if_neg (by simp), hd]
theorem hear_none {k : Ct} {t : List UInt8} (h : ¬ k.op = []) (hd : decA t = none) : hearC k t = (noteK k t, false) := by
 unfold hearC noteK
 rw [if_neg h, hd]
 split <;> rfl
theorem noteK_ans (k : Ct) (t : List UInt8) : (noteK k t).ans = k.ans := by
 unfold noteK
 split
 ·unfold hearN
  split <;> rfl
 ·rfl
theorem tick_last {k : Ct} (h : CtB k) (hp : ¬ k.waited + 1 ≤ k.pat) (ho : ¬ k.op = []) : tickC k = ({k with target := if k.size < k.target + 1 then 1 else k.target + 1, waited := 1}, (if k.size < k.target + 1 then 1 else k.target + 1, k.op, true)) := by
 have e : k.target.tmod k.size + 1 = if k.size < k.target + 1 then 1 else k.target + 1 := by
  have := h.target
  have := h.size
  split
  ·rw [show k.target = k.size by omega, Int.tmod_self]
   rfl
  ·rw [Int.tmod_eq_of_lt (by omega) (by omega)]
 unfold tickC
 rw [if_neg ho, if_pos (by omega), e]
theorem tick_first {k : Ct} (h : CtB k) (h1 : k.waited + 1 = 1) (ho : ¬ k.op = []) : tickC k = ({k with waited := k.waited + 1}, (k.target, k.op, true)) := by
 have := h.pat
 unfold tickC
 rw [if_neg ho, if_neg (by omega), if_pos h1]
theorem tick_mid {k : Ct} (h1 : ¬ k.waited + 1 = 1) (hp : k.waited + 1 ≤ k.pat) (ho : ¬ k.op = []) : tickC k = ({k with waited := k.waited + 1}, (0, [], false)) := by
 unfold tickC
 rw [if_neg ho, if_neg (by omega), if_neg h1]
set_option maxHeartbeats 4000000 in
theorem rnew_any (i z p : Int) (w : World) : Calls Try.prog 22 #[.int .i64 i, .int .i64 z, .int .i64 p] w fun e w' => e = .returned (.tuple #[.pointer (some ⟨w.heap.size, 0, none⟩), .bool (okNew i z p)]) ∧ Blk w' w.heap.size 71 (rtc (newC i z p) (.slice none 0 0)).toArray ∧ Step [] [] w w' := by
 go_enter Try.func22, Try.ntmps22
 by_cases t0 : (0 : Int) < i
 rotate_left
 ·have td : decide ((0 : Int) < i) = false := decide_eq_false t0
  have HV : Hid (okNew i z p = false) := Lib.hid (by cases h : okNew i z p with | false => rfl | true => have := okNew_iff.1 h; omega)
  clear t0
  go_wp2_with fail
  refine bodyPost_ret (v := .tuple #[.pointer (some ⟨w.heap.size, 0, none⟩), .bool false]) ?_ rfl ⟨by rw [HV.out], ?_, (Step.refl [] w).alloc _⟩
  ·simp [results, Try.results22, go_sem]
  ·exact Blk.new w _ _
 have t0d : decide ((0 : Int) < i) = true := decide_eq_true t0
 by_cases t1 : i < 9
 rotate_left
 ·have td : decide (i < 9) = false := decide_eq_false t1
  have HV : Hid (okNew i z p = false) := Lib.hid (by cases h : okNew i z p with | false => rfl | true => have := okNew_iff.1 h; omega)
  clear t0 t1
  go_wp2_with fail
  refine bodyPost_ret (v := .tuple #[.pointer (some ⟨w.heap.size, 0, none⟩), .bool false]) ?_ rfl ⟨by rw [HV.out], ?_, (Step.refl [] w).alloc _⟩
  ·simp [results, Try.results22, go_sem]
  ·exact Blk.new w _ _
 have t1d : decide (i < 9) = true := decide_eq_true t1
 by_cases t2 : (0 : Int) < z
 rotate_left
 ·have td : decide ((0 : Int) < z) = false := decide_eq_false t2
  have HV : Hid (okNew i z p = false) := Lib.hid (by cases h : okNew i z p with | false => rfl | true => have := okNew_iff.1 h; omega)
  clear t0 t1 t2
  go_wp2_with fail
  refine bodyPost_ret (v := .tuple #[.pointer (some ⟨w.heap.size, 0, none⟩), .bool false]) ?_ rfl ⟨by rw [HV.out], ?_, (Step.refl [] w).alloc _⟩
  ·simp [results, Try.results22, go_sem]
  ·exact Blk.new w _ _
 have t2d : decide ((0 : Int) < z) = true := decide_eq_true t2
 by_cases t3 : z < 8
 rotate_left
 ·have td : decide (z < 8) = false := decide_eq_false t3
  have HV : Hid (okNew i z p = false) := Lib.hid (by cases h : okNew i z p with | false => rfl | true => have := okNew_iff.1 h; omega)
  clear t0 t1 t2 t3
  go_wp2_with fail
  refine bodyPost_ret (v := .tuple #[.pointer (some ⟨w.heap.size, 0, none⟩), .bool false]) ?_ rfl ⟨by rw [HV.out], ?_, (Step.refl [] w).alloc _⟩
  ·simp [results, Try.results22, go_sem]
  ·exact Blk.new w _ _
 have t3d : decide (z < 8) = true := decide_eq_true t3
 by_cases t4 : (0 : Int) < p
 rotate_left
 ·have td : decide ((0 : Int) < p) = false := decide_eq_false t4
  have HV : Hid (okNew i z p = false) := Lib.hid (by cases h : okNew i z p with | false => rfl | true => have := okNew_iff.1 h; omega)
  clear t0 t1 t2 t3 t4
  go_wp2_with fail
  refine bodyPost_ret (v := .tuple #[.pointer (some ⟨w.heap.size, 0, none⟩), .bool false]) ?_ rfl ⟨by rw [HV.out], ?_, (Step.refl [] w).alloc _⟩
  ·simp [results, Try.results22, go_sem]
  ·exact Blk.new w _ _
 have t4d : decide ((0 : Int) < p) = true := decide_eq_true t4
 by_cases t5 : p < 101
 rotate_left
 ·have td : decide (p < 101) = false := decide_eq_false t5
  have HV : Hid (okNew i z p = false) := Lib.hid (by cases h : okNew i z p with | false => rfl | true => have := okNew_iff.1 h; omega)
  clear t0 t1 t2 t3 t4 t5
  go_wp2_with fail
  refine bodyPost_ret (v := .tuple #[.pointer (some ⟨w.heap.size, 0, none⟩), .bool false]) ?_ rfl ⟨by rw [HV.out], ?_, (Step.refl [] w).alloc _⟩
  ·simp [results, Try.results22, go_sem]
  ·exact Blk.new w _ _
 have t5d : decide (p < 101) = true := decide_eq_true t5
 have HV : Hid (okNew i z p = true) := Lib.hid (okNew_iff.2 ⟨⟨by omega, by omega⟩, ⟨by omega, by omega⟩, ⟨by omega, by omega⟩⟩)
 clear t0 t1 t2 t3 t4 t5
 go_wp2_with fail
 refine bodyPost_ret (v := .tuple #[.pointer (some ⟨w.heap.size, 0, none⟩), .bool true]) ?_ rfl ⟨by rw [HV.out], ?_, (Step.refl [] w).alloc _⟩
 ·simp [results, Try.results22, go_sem]
 ·exact Blk.new w _ _
def RTickP (k : Ct) (s : Value) (b : Nat) (w : World) (e : Ending) (w' : World) : Prop := e = .returned (.int .i64 (tickC k).2.1) ∧ Blk w' b 71 (rtc (tickC k).1 s).toArray ∧ Step [b] [b] w w'
set_option maxHeartbeats 4000000 in
theorem rtick_any (k : Ct) (s : Value) (b : Nat) (w : World) (h : Blk w b 71 (rtc k s).toArray) (hB : CtB k) : Calls Try.prog 24 #[.pointer (some ⟨b, 0, none⟩)] w (RTickP k s b w) := by
 have H0 := Lib.hid h
 have HB := Lib.hid hB
 clear h hB
 have fc := H0.out.cell
 have f4 := fc 4
 clear fc
 simp only [rtc, rtb, List.getElem?_toArray, List.getElem?_cons_zero, List.getElem?_cons_succ] at f4
 have fl := H0.out.lt
 go_enter Try.func24, Try.ntmps24
 by_cases ho : k.op = []
 ·rw [isE_yes ho] at f4
  have HV : Hid (tickC k = (k, (0, [], false))) := Lib.hid (if_pos ho)
  clear ho
  go_wp2_with fail
  exact bodyPost_ret (results_tmp rfl _ _ _) rfl ⟨by rw [HV.out] <;> rfl, by rw [HV.out]; exact H0.out, Step.refl _ _⟩
 ·rw [isE_no ho] at f4
  have HO := Lib.hid ho
  clear ho
  go_upto_region 3 with fail
  clear f4 fl
  have fc := H0.out.cell
  have f8 := fc 8
  clear fc
  simp only [rtc, rtb, List.getElem?_toArray, List.getElem?_cons_zero, List.getElem?_cons_succ] at f8
  have fl := H0.out.lt
  have ff8 := H0.out.frozen 8
  have hw : IntKind.i64.wrap (k.waited + 1) = k.waited + 1 := IntWalk.i64_in _ (by have := HB.out.waited; have := HB.out.pat; omega)
  go_upto_region 4 with fail
  clear hw
  obtain ⟨V, hV⟩ : ∃ V, V = w.setCell ⟨b, 8, none⟩ (.int .i64 (k.waited + 1)) := ⟨_, rfl⟩
  have H1 : Hid (Blk V b 71 (rtc {k with waited := k.waited + 1} s).toArray ∧ Step [b] [b] w V) := Lib.hid (by rw [hV]; exact ⟨by have hq := H0.out.set 8 (.int .i64 (k.waited + 1)); simpa [rtc, rtb] using hq, (Step.refl [b] w).setCell (.inl (by simp)) _⟩)
  rw [← hV]
  clear hV f8 fl ff8
  by_cases h1 : k.waited + 1 = 1
  ·have h1d : (k.waited + 1 == 1) = true := by simp [h1]
   have HV : Hid (tickC k = ({k with waited := k.waited + 1}, (k.target, k.op, true))) := Lib.hid (tick_first HB.out h1 HO.out)
   clear h1
   have fc := H1.out.1.cell
   have f7 := fc 7
   have f8 := fc 8
   clear fc
   simp only [rtc, rtb, List.getElem?_toArray, List.getElem?_cons_zero, List.getElem?_cons_succ] at f7 f8
   have fl := H1.out.1.lt
   go_wp2_with fail
   exact bodyPost_ret (results_tmp rfl _ _ _) rfl ⟨by rw [HV.out] <;> rfl, by rw [HV.out]; exact H1.out.1, H1.out.2⟩
  ·have h1d : (k.waited + 1 == 1) = false := by simpa using h1
   have fc := H1.out.1.cell
   have f2 := fc 2
   have f8 := fc 8
   clear fc
   simp only [rtc, rtb, List.getElem?_toArray, List.getElem?_cons_zero, List.getElem?_cons_succ] at f2 f8
   have fl := H1.out.1.lt
   by_cases hp : k.waited + 1 ≤ k.pat
   ·have hpd : decide (k.waited + 1 ≤ k.pat) = true := decide_eq_true hp
    have HV : Hid (tickC k = ({k with waited := k.waited + 1}, (0, [], false))) := Lib.hid (tick_mid h1 hp HO.out)
    clear h1 hp
    go_wp2_with fail
    go_quiet (fail)
    go_wp2_with fail
    exact bodyPost_ret (results_tmp rfl _ _ _) rfl ⟨by rw [HV.out] <;> rfl, by rw [HV.out]; exact H1.out.1.step ((Step.refl [] V).drewN _) (by simp), H1.out.2.drewN _⟩
   ·have hpd : decide (k.waited + 1 ≤ k.pat) = false := decide_eq_false hp
    have HP := Lib.hid hp
    clear h1 hp
    go_upto_region 8 with (go_quiet (fail))
    clear hpd h1d f2 f8 fl
    obtain ⟨X1, hX1⟩ : ∃ U, U = V.drewN nq := ⟨_, rfl⟩
    have H2 : Hid (Blk X1 b 71 (rtc {k with waited := k.waited + 1} s).toArray ∧ Step [b] [b] w X1) := Lib.hid (by rw [hX1]; exact ⟨H1.out.1.step ((Step.refl [] V).drewN _) (by simp), H1.out.2.drewN _⟩)
    rw [← hX1]
    clear hX1 H1
    have fc := H2.out.1.cell
    have f7 := fc 7
    have f8 := fc 8
    clear fc
    simp only [rtc, rtb, List.getElem?_toArray, List.getElem?_cons_zero, List.getElem?_cons_succ] at f7 f8
    have fl := H2.out.1.lt
    have ff7 := H2.out.1.frozen 7
    have ff8 := H2.out.1.frozen 8
    have hw : IntKind.i64.wrap (k.target + 1) = k.target + 1 := IntWalk.i64_in _ (by have := HB.out.target; have := HB.out.size; omega)
    go_upto_region 10 with fail
    clear hw f7 f8 fl ff7 ff8
    obtain ⟨X2, hX2⟩ : ∃ U, U = (X1.setCell ⟨b, 8, none⟩ (.int .i64 1)).setCell ⟨b, 7, none⟩ (.int .i64 (k.target + 1)) := ⟨_, rfl⟩
    have H3 : Hid (Blk X2 b 71 (rtc {k with waited := 1, target := k.target + 1} s).toArray ∧ Step [b] [b] w X2) := Lib.hid (by rw [hX2]; exact ⟨by have hq := (H2.out.1.set 8 (.int .i64 1)).set 7 (.int .i64 (k.target + 1)); simpa [rtc, rtb] using hq, (H2.out.2.setCell (.inl (by simp)) _).setCell (.inl (by simp)) _⟩)
    rw [← hX2]
    clear hX2 H2
    have fc := H3.out.1.cell
    have f1 := fc 1
    have f7 := fc 7
    clear fc
    simp only [rtc, rtb, List.getElem?_toArray, List.getElem?_cons_zero, List.getElem?_cons_succ] at f1 f7
    have fl := H3.out.1.lt
    have HT := Lib.hid (tick_last HB.out HP.out HO.out)
    by_cases hl : k.size < k.target + 1
    ·have hld : decide (k.size < k.target + 1) = true := decide_eq_true hl
     have HV : Hid (tickC k = ({k with waited := 1, target := 1}, (1, k.op, true))) := Lib.hid (by rw [HT.out, if_pos hl])
     clear hl
     go_upto_region 11 with (go_quiet (fail))
     clear hld f1 f7 fl
     obtain ⟨X3, hX3⟩ : ∃ U, U = X2.drewN nq := ⟨_, rfl⟩
     have H4 : Hid (Blk X3 b 71 (rtc {k with waited := 1, target := k.target + 1} s).toArray ∧ Step [b] [b] w X3) := Lib.hid (by rw [hX3]; exact ⟨H3.out.1.step ((Step.refl [] X2).drewN _) (by simp), H3.out.2.drewN _⟩)
     rw [← hX3]
     clear hX3 H3
     have fc := H4.out.1.cell
     have f7 := fc 7
     clear fc
     simp only [rtc, rtb, List.getElem?_toArray, List.getElem?_cons_zero, List.getElem?_cons_succ] at f7
     have fl := H4.out.1.lt
     have ff7 := H4.out.1.frozen 7
     go_wp2_with fail
     exact bodyPost_ret (results_tmp rfl _ _ _) rfl ⟨by rw [HV.out] <;> rfl, by rw [HV.out]; exact (by have hq := H4.out.1.set 7 (.int .i64 1); simpa [rtc, rtb] using hq), H4.out.2.setCell (.inl (by simp)) _⟩
    ·have hld : decide (k.size < k.target + 1) = false := decide_eq_false hl
     have HV : Hid (tickC k = ({k with waited := 1, target := k.target + 1}, (k.target + 1, k.op, true))) := Lib.hid (by rw [HT.out, if_neg hl])
     clear hl
     go_wp2_with fail
     go_quiet (fail)
     go_wp2_with fail
     exact bodyPost_ret (results_tmp rfl _ _ _) rfl ⟨by rw [HV.out] <;> rfl, by rw [HV.out]; exact H3.out.1.step ((Step.refl [] X2).drewN _) (by simp), H3.out.2.drewN _⟩
def RAskP (k : Ct) (x : Cm) (s : Value) (b : Nat) (w : World) (e : Ending) (w' : World) : Prop := e = .returned (.tuple #[Str (askC k x).2.1, .int .i64 (askC k x).2.2]) ∧ Blk w' b 71 (rtc (askC k x).1 s).toArray ∧ Step [b] [b] w w'
set_option maxHeartbeats 16000000 in
theorem rask_any (k : Ct) (s : Value) (b : Nat) (x : Cm) (a1 a2 a3 : Option Addr) (c1 c2 c3 : Nat) (w : World) (h : Blk w b 71 (rtc k s).toArray) (hB : CtB k) (hr : RdC w x a1 a2 a3) (hX : CmB (askX k x)) (hL : LenS x) : Calls Try.prog 23 #[.pointer (some ⟨b, 0, none⟩), cmV x (.slice a1 x.ifs.length c1) (.slice a2 x.thens.length c2) (.slice a3 x.elses.length c3)] w (RAskP k x s b w) := by
 have H00 : Hid (Blk (w.alloc (.cells (cmc x (.slice a1 x.ifs.length c1) (.slice a2 x.thens.length c2) (.slice a3 x.elses.length c3)).toArray 44)) w.heap.size 44 (cmc x (.slice a1 x.ifs.length c1) (.slice a2 x.thens.length c2) (.slice a3 x.elses.length c3)).toArray ∧ Blk (w.alloc (.cells (cmc x (.slice a1 x.ifs.length c1) (.slice a2 x.thens.length c2) (.slice a3 x.elses.length c3)).toArray 44)) b 71 (rtc k s).toArray ∧ Step [] [] w (w.alloc (.cells (cmc x (.slice a1 x.ifs.length c1) (.slice a2 x.thens.length c2) (.slice a3 x.elses.length c3)).toArray 44))) := Lib.hid ⟨Blk.new w _ _, h.alloc _, (Step.refl [] w).alloc _⟩
 have HR := Lib.hid (And.intro hr (And.intro hX (And.intro hL (And.intro hB h.lt))))
 clear h hr hX hL hB
 go_enter Try.func23, Try.ntmps23
 go_upto_region 1 with fail
 change Code.wp _ _ _ _ (w.alloc (.cells (cmc x (.slice a1 x.ifs.length c1) (.slice a2 x.thens.length c2) (.slice a3 x.elses.length c3)).toArray 44))
 obtain ⟨rb, hrb⟩ : ∃ b, b = w.heap.size := ⟨_, rfl⟩
 obtain ⟨V, hV⟩ : ∃ V, V = (w.alloc (.cells (cmc x (.slice a1 x.ifs.length c1) (.slice a2 x.thens.length c2) (.slice a3 x.elses.length c3)).toArray 44)) := ⟨_, rfl⟩
 rw [← hV, ← hrb] at H00
 have H0 := H00
 rw [← hV]
 try rw [← hrb]
 have HNE : Hid (w.heap.size ≤ rb ∧ b ≠ rb) := Lib.hid ⟨by omega, by have := HR.out.2.2.2.2; omega⟩
 clear hV hrb H00
 have fc := H0.out.2.1.cell
 have f3 := fc 3
 have f4 := fc 4
 clear fc
 simp only [rtc, rtb, List.getElem?_toArray, List.getElem?_cons_zero, List.getElem?_cons_succ] at f3 f4
 have fl := H0.out.2.1.lt
 by_cases ho : k.op = []
 ·rw [isE_yes ho] at f4
  have HO := Lib.hid ho
  clear ho
  by_cases hs : 1099511627776 ≤ k.seq
  ·have hsd : decide (1099511627776 ≤ k.seq) = true := decide_eq_true hs
   have HV : Hid (askC k x = (k, ([], 1))) := Lib.hid (by unfold askC; rw [if_neg (by simp [HO.out]), if_pos hs])
   clear hs
   go_wp2_with fail
   exact bodyPost_ret (results_tmp2 rfl _ _ _) rfl ⟨by rw [HV.out]; rfl, by rw [HV.out]; exact H0.out.2.1, H0.out.2.2.keep [b]⟩
  ·have hsd : decide (1099511627776 ≤ k.seq) = false := decide_eq_false hs
   have HSQ := Lib.hid hs
   clear hs
   go_upto_region 5 with fail
   clear hsd f3 f4 fl
   have hw : IntKind.i64.wrap (k.seq + 1) = k.seq + 1 := IntWalk.i64_in _ (by have := HR.out.2.2.2.1.seq; omega)
   have H1 : Hid (Blk V.drew rb 44 (cmc x (.slice a1 x.ifs.length c1) (.slice a2 x.thens.length c2) (.slice a3 x.elses.length c3)).toArray ∧ Blk V.drew b 71 (rtc k s).toArray ∧ Step [] [] w V.drew) := Lib.hid ⟨H0.out.1.drew, H0.out.2.1.drew, H0.out.2.2.drew⟩
   refine wp_region_held_drew (S := fun W => Hid (Blk W b 71 (rtc k s).toArray)) (by kernel_rfl) (Lib.hid H1.out.2.1) (fun hHeld => ?_)
   refine wpAnyH_take (i := 0) (v := ?_) rfl (by kernel_rfl) (by kernel_rfl) (by kernel_rfl) (fun _ _ _ h => h) (Or.inl ⟨by rfl, ?_⟩) hHeld ?_
   rotate_left
   ·intro w hSw1
    try dsimp only at hSw1
    go_simp
    try (with_reducible rfl)
   try simp only [Act.put, LsA, LsB, LsC, LsD, LsE, LsF]
   refine wpAnyH_take (i := 1) (v := ?_) rfl (by kernel_rfl) (by kernel_rfl) (by kernel_rfl) (fun _ _ _ h => h) (Or.inl ⟨by rfl, ?_⟩) hHeld ?_
   rotate_left
   ·intro w hSw1
    try dsimp only at hSw1
    go_simp
    try (with_reducible rfl)
   try simp only [Act.put, LsA, LsB, LsC, LsD, LsE, LsF]
   refine wpAnyH_take (i := 2) (v := ?_) rfl (by kernel_rfl) (by kernel_rfl) (by kernel_rfl) (fun _ _ _ h => h) (Or.inl ⟨by rfl, ?_⟩) hHeld ?_
   rotate_left
   ·intro w hSw1
    try dsimp only at hSw1
    go_simp
    try (with_reducible rfl)
   try simp only [Act.put, LsA, LsB, LsC, LsD, LsE, LsF]
   refine wpAnyH_take (i := 3) (v := ?_) rfl (by kernel_rfl) (by kernel_rfl) (by kernel_rfl) (fun _ _ _ h => h) (Or.inl ⟨by rfl, ?_⟩) hHeld ?_
   rotate_left
   ·intro w hSw1
    have tc := hSw1.out.cell
    have t0 := tc 0
    have t3 := tc 3
    have t6 := tc 6
    clear tc
    simp only [rtc, rtb, List.getElem?_toArray, List.getElem?_cons_zero, List.getElem?_cons_succ] at t0 t3 t6
    have tl := hSw1.out.lt
    go_simp
    try (with_reducible rfl)
   try simp only [Act.put, LsA, LsB, LsC, LsD, LsE, LsF]
   refine wpAnyH_take (i := 4) (v := ?_) rfl (by kernel_rfl) (by kernel_rfl) (by kernel_rfl) (fun _ _ _ h => h) (Or.inl ⟨by rfl, ?_⟩) hHeld ?_
   rotate_left
   ·intro w hSw1
    try dsimp only at hSw1
    go_simp
    try (with_reducible rfl)
   try simp only [Act.put, LsA, LsB, LsC, LsD, LsE, LsF]
   refine wpAnyH_take (i := 5) (v := ?_) rfl (by kernel_rfl) (by kernel_rfl) (by kernel_rfl) (fun _ _ _ h => h) (Or.inl ⟨by rfl, ?_⟩) hHeld ?_
   rotate_left
   ·intro w hSw1
    try dsimp only at hSw1
    go_simp
    try (with_reducible rfl)
   try simp only [Act.put, LsA, LsB, LsC, LsD, LsE, LsF]
   refine wpAnyH_take (i := 6) (v := ?_) rfl (by kernel_rfl) (by kernel_rfl) (by kernel_rfl) (fun _ _ _ h => h) (Or.inl ⟨by rfl, ?_⟩) hHeld ?_
   rotate_left
   ·intro w hSw1
    try dsimp only at hSw1
    go_simp
    try (with_reducible rfl)
   try simp only [Act.put, LsA, LsB, LsC, LsD, LsE, LsF]
   refine wpAnyH_take (i := 7) (v := ?_) rfl (by kernel_rfl) (by kernel_rfl) (by kernel_rfl) (fun _ _ _ h => h) (Or.inl ⟨by rfl, ?_⟩) hHeld ?_
   rotate_left
   ·intro w hSw1
    have tc := hSw1.out.cell
    have t0 := tc 0
    have t3 := tc 3
    have t6 := tc 6
    clear tc
    simp only [rtc, rtb, List.getElem?_toArray, List.getElem?_cons_zero, List.getElem?_cons_succ] at t0 t3 t6
    have tl := hSw1.out.lt
    go_simp
    try (with_reducible rfl)
   try simp only [Act.put, LsA, LsB, LsC, LsD, LsE, LsF]
   refine wpAnyH_take (i := 8) (v := ?_) rfl (by kernel_rfl) (by kernel_rfl) (by kernel_rfl) (fun _ _ _ h => h) (Or.inl ⟨by rfl, ?_⟩) hHeld ?_
   rotate_left
   ·intro w hSw1
    try dsimp only at hSw1
    go_simp
    try (with_reducible rfl)
   try simp only [Act.put, LsA, LsB, LsC, LsD, LsE, LsF]
   refine wpAnyH_take (i := 9) (v := ?_) rfl (by kernel_rfl) (by kernel_rfl) (by kernel_rfl) (fun _ _ _ h => h) (Or.inl ⟨by rfl, ?_⟩) hHeld ?_
   rotate_left
   ·intro w hSw1
    try dsimp only at hSw1
    go_simp
    try (with_reducible rfl)
   try simp only [Act.put, LsA, LsB, LsC, LsD, LsE, LsF]
   refine wpAnyH_take (i := 10) (v := ?_) rfl (by kernel_rfl) (by kernel_rfl) (by kernel_rfl) (fun _ _ _ h => h) (Or.inl ⟨by rfl, ?_⟩) hHeld ?_
   rotate_left
   ·intro w hSw1
    try dsimp only at hSw1
    go_simp
    try (with_reducible rfl)
   try simp only [Act.put, LsA, LsB, LsC, LsD, LsE, LsF]
   refine wpAnyH_take (i := 11) (v := ?_) rfl (by kernel_rfl) (by kernel_rfl) (by kernel_rfl) (fun _ _ _ h => h) (Or.inl ⟨by rfl, ?_⟩) hHeld ?_
   rotate_left
   ·intro w hSw1
    try dsimp only at hSw1
    go_simp
    try (with_reducible rfl)
   try simp only [Act.put, LsA, LsB, LsC, LsD, LsE, LsF]
   refine wpAnyH_take (i := 12) (v := ?_) rfl (by kernel_rfl) (by kernel_rfl) (by kernel_rfl) (fun _ _ _ h => h) (Or.inl ⟨by rfl, ?_⟩) hHeld ?_
   rotate_left
   ·intro w hSw1
    have tc := hSw1.out.cell
    have t0 := tc 0
    have t3 := tc 3
    have t6 := tc 6
    clear tc
    simp only [rtc, rtb, List.getElem?_toArray, List.getElem?_cons_zero, List.getElem?_cons_succ] at t0 t3 t6
    have tl := hSw1.out.lt
    go_simp
    try (with_reducible rfl)
   try simp only [Act.put, LsA, LsB, LsC, LsD, LsE, LsF]
   refine wpAnyH_take (i := 13) (v := ?_) rfl (by kernel_rfl) (by kernel_rfl) (by kernel_rfl) (fun _ _ _ h => h) (Or.inl ⟨by rfl, ?_⟩) hHeld ?_
   rotate_left
   ·intro w hSw1
    try dsimp only at hSw1
    go_simp
    try (with_reducible rfl)
   try simp only [Act.put, LsA, LsB, LsC, LsD, LsE, LsF]
   refine wpAnyH_ready (rs := [14]) (by kernel_rfl) (by simp) ?_
   refine AllReadyH.cons rfl (fun K hK => ?_) AllReadyH.nil
   have zb := H0.out.1.drew; have zf := zb.frozen 0; have zl := zb.lt; have zc := zb.cell 0; simp [cmc] at zc; clear zb; go_simp; go_wp2_with fail; clear zf zl zc
   refine hK.out _ _ (Lib.hid (H0.out.2.1.far (p := ⟨rb, 0, none⟩) HNE.out.2 (.int .i64 k.id)).drew) (fun hHeld2 => ?_)
   clear hK K hHeld
   try simp only [Act.put, LsA, LsB, LsC, LsD, LsE, LsF]
   refine wpAnyH_take (i := 15) (v := ?_) rfl (by kernel_rfl) (by kernel_rfl) (by kernel_rfl) (fun _ _ _ h => h) (Or.inl ⟨by rfl, ?_⟩) hHeld2 ?_
   rotate_left
   ·intro w hSw1
    try dsimp only at hSw1
    go_simp
    try (with_reducible rfl)
   try simp only [Act.put, LsA, LsB, LsC, LsD, LsE, LsF]
   refine wpAnyH_ready (rs := [16]) (by kernel_rfl) (by simp) ?_
   refine AllReadyH.cons rfl (fun K hK => ?_) AllReadyH.nil
   have zb := (H0.out.1.set 0 (.int .i64 k.id)).drew; have zf := zb.frozen 1; have zl := zb.lt; have zc := zb.cell 1; simp [cmc] at zc; clear zb; go_simp; go_wp2_with fail; clear zf zl zc
   refine hK.out _ _ (Lib.hid ((H0.out.2.1.far (p := ⟨rb, 0, none⟩) HNE.out.2 (.int .i64 k.id)).far (p := ⟨rb, 1, none⟩) HNE.out.2 (.int .i64 (k.seq + 1))).drew) (fun hHeld3 => ?_)
   clear hK K hHeld2
   try simp only [Act.put, LsA, LsB, LsC, LsD, LsE, LsF]
   refine wpAnyH_take (i := 17) (v := ?_) rfl (by kernel_rfl) (by kernel_rfl) (by kernel_rfl) (fun _ _ _ h => h) (Or.inl ⟨by rfl, ?_⟩) hHeld3 ?_
   rotate_left
   ·intro w hSw1
    try dsimp only at hSw1
    go_simp
    try (with_reducible rfl)
   try simp only [Act.put, LsA, LsB, LsC, LsD, LsE, LsF]
   refine wpAnyH_ready (rs := [18]) (by kernel_rfl) (by simp) ?_
   refine AllReadyH.cons rfl (fun K hK => ?_) AllReadyH.nil
   have zb := ((H0.out.1.set 0 (.int .i64 k.id)).set 1 (.int .i64 (k.seq + 1))).drew; have zf := zb.frozen 2; have zl := zb.lt; have zc := zb.cell 2; simp [cmc] at zc; clear zb; go_simp; go_wp2_with fail; clear zf zl zc
   refine hK.out _ _ (Lib.hid (((H0.out.2.1.far (p := ⟨rb, 0, none⟩) HNE.out.2 (.int .i64 k.id)).far (p := ⟨rb, 1, none⟩) HNE.out.2 (.int .i64 (k.seq + 1))).far (p := ⟨rb, 2, none⟩) HNE.out.2 (Str k.tok)).drew) (fun hHeld4 => ?_)
   clear hK K hHeld3
   try simp only [Act.put, LsA, LsB, LsC, LsD, LsE, LsF]
   refine wpAnyH_done (by kernel_rfl) ?_ _
   obtain ⟨V2, hV2⟩ : ∃ U, U = (((V.setCell ⟨rb, 0, none⟩ (.int .i64 k.id)).setCell ⟨rb, 1, none⟩ (.int .i64 (k.seq + 1))).setCell ⟨rb, 2, none⟩ (Str k.tok)).drew := ⟨_, rfl⟩
   have H2 : Hid (Blk V2 rb 44 (cmc ({x with client := k.id, seq := k.seq + 1, token := k.tok} : Cm) (.slice a1 x.ifs.length c1) (.slice a2 x.thens.length c2) (.slice a3 x.elses.length c3)).toArray ∧ Blk V2 b 71 (rtc k s).toArray ∧ Step [] [] w V2) := Lib.hid (by rw [hV2]; exact ⟨by have hq := (((H0.out.1.set 0 (.int .i64 k.id)).set 1 (.int .i64 (k.seq + 1))).set 2 (Str k.tok)).drew; simpa [cmc] using hq, (((H0.out.2.1.far (p := ⟨rb, 0, none⟩) HNE.out.2 _).far (p := ⟨rb, 1, none⟩) HNE.out.2 _).far (p := ⟨rb, 2, none⟩) HNE.out.2 _).drew, (H0.out.2.2.own ((((Step.refl [rb] _).setCell (.inl (by simp)) _).setCell (.inl (by simp)) _).setCell (.inl (by simp)) _) HNE.out.1).drew⟩)
   rw [← hV2]
   clear hV2 H1 H0
   have mc := H2.out.1.cell
   have m2 := mc 2
   have m3 := mc 3
   clear mc
   simp only [cmc, List.getElem?_toArray, List.getElem?_cons_zero, List.getElem?_cons_succ] at m2 m3
   have ml := H2.out.1.lt
   have mf2 := H2.out.1.frozen 2
   have mf3 := H2.out.1.frozen 3
   go_upto_if 35 with fail
   go_cut [] (fun wx => Hid (Blk wx rb 44 (cmc (askX k x) (.slice a1 x.ifs.length c1) (.slice a2 x.thens.length c2) (.slice a3 x.elses.length c3)).toArray ∧ Blk wx b 71 (rtc k s).toArray ∧ Step [] [] w wx))
   case first =>
    by_cases hk : x.kind = 1
    ·have hkb : (x.kind == 1) = true := by simp [hk]
     have HK := Lib.hid hk
     clear hk
     go_wp2_with fail
     go_meet
     exact Lib.hid ⟨by have hq := H2.out.1.set 2 (Str []); simpa [cmc, askX, HK.out] using hq, H2.out.2.1.far (p := ⟨rb, 2, none⟩) HNE.out.2 _, H2.out.2.2.own ((Step.refl [rb] _).setCell (.inl (by simp)) _) HNE.out.1⟩
    ·have hkb : (x.kind == 1) = false := by simpa using hk
     have HK := Lib.hid hk
     clear hk
     go_wp2_with fail
     go_meet
     exact Lib.hid ⟨by have hq := H2.out.1; simpa [cmc, askX, HK.out] using hq, H2.out.2⟩
   case rest =>
    rename World => V3
    have H3 := hcut
    clear H2 m2 m3 ml mf2 mf3
    have HY : Hid (RdC V3 (askX k x) a1 a2 a3) := Lib.hid (by have h := HR.out.1.step H3.out.2.2; exact ⟨h.i, h.t, h.e⟩)
    have HA := Lib.hid (askC_ref x HO.out (by have := HSQ.out; omega) HR.out.2.2.1)
    go_wp2_with (refine wpList_loadRow (T := 44) (b := rb) (T' := 44) (cs := (cmc (askX k x) (.slice a1 x.ifs.length c1) (.slice a2 x.thens.length c2) (.slice a3 x.elses.length c3)).toArray) rfl (.tmp 3) rfl rfl Try.sCmd H3.out.1 ?_)
    refine (rbytes_any (askX k x) a1 a2 a3 c1 c2 c3 V3 HY.out HR.out.2.1 ⟨HR.out.2.2.1.i, HR.out.2.2.1.t, HR.out.2.2.1.e⟩).mono ?_
    rintro e X1 ⟨rfl, kk⟩
    have H4 := Lib.hid (And.intro (H3.out.2.1.step kk (by simp)) (H3.out.2.2.trans kk))
    clear kk H3
    obtain ⟨⟨es, ee⟩, hse⟩ : ∃ p, p = refBq (askX k x) := ⟨_, rfl⟩
    rw [← hse] at HA ⊢
    clear hse
    by_cases h0 : ee = 0
    ·subst h0
     have HV : Hid (askC k x = ({k with seq := k.seq + 1, op := es, waited := 0}, (es, 0))) := Lib.hid (by rw [HA.out]; exact if_pos rfl)
     have HNN : Hid ((!es.isEmpty) = true) := Lib.hid (isE_no (ask_some x HO.out HV.out))
     have fc := H4.out.1.cell
     have f3 := fc 3
     have f4 := fc 4
     have f5 := fc 5
     have f8 := fc 8
     clear fc
     simp only [rtc, rtb, List.getElem?_toArray, List.getElem?_cons_zero, List.getElem?_cons_succ] at f3 f4 f5 f8
     have fl := H4.out.1.lt
     have ff3 := H4.out.1.frozen 3
     have ff4 := H4.out.1.frozen 4
     have ff5 := H4.out.1.frozen 5
     have ff8 := H4.out.1.frozen 8
     go_wp2_with fail
     refine bodyPost_ret (results_tmp2 rfl _ _ _) rfl ⟨by rw [HV.out]; rfl, ?_, ?_⟩
     ·rw [HV.out]
      have hq := (((H4.out.1.set 4 (.bool true)).set 5 (Str es)).set 8 (.int .i64 0)).set 3 (.int .i64 (k.seq + 1))
      simp only [rtc, rtb, HNN.out]
      simpa [rtc, rtb] using hq
     ·exact (((((H4.out.2.keep [b]).setCell (.inl (by simp)) _).setCell (.inl (by simp)) _).setCell (.inl (by simp)) _).setCell (.inl (by simp)) _)
    ·have h0d : (ee != 0) = true := by simpa using h0
     have HV : Hid (askC k x = (k, ([], ee))) := Lib.hid (by rw [HA.out]; exact if_neg h0)
     clear h0
     go_wp2_with fail
     exact bodyPost_ret (results_tmp2 rfl _ _ _) rfl ⟨by rw [HV.out]; rfl, by rw [HV.out]; exact H4.out.1, H4.out.2.keep [b]⟩
 ·rw [isE_no ho] at f4
  have HV : Hid (askC k x = (k, ([], 21))) := Lib.hid (if_pos ho)
  clear ho
  go_wp2_with fail
  exact bodyPost_ret (results_tmp2 rfl _ _ _) rfl ⟨by rw [HV.out]; rfl, by rw [HV.out]; exact H0.out.2.1, H0.out.2.2.keep [b]⟩
def RHearP (k : Ct) (b : Nat) (S : List Nat) (t : List UInt8) (w : World) (e : Ending) (w' : World) : Prop :=
 ∃ s' : Value, e = .returned (.bool (hearC k t).2) ∧ Blk w' b 71 (rtc (hearC k t).1 s').toArray ∧ Step [b] [b] w w' ∧ AnsAt w' S s' (hearC k t).1.ans
set_option maxHeartbeats 8000000 in
theorem rhear_any (k : Ct) (s : Value) (b : Nat) (S : List Nat) (t : List UInt8) (w : World) (h : Blk w b 71 (rtc k s).toArray) (hS : b ∈ S ∧ ∀ g ∈ S, g < w.heap.size) (hA : AnsAt w S s k.ans) (ht : t.length ≤ 2097152) : Calls Try.prog 25 #[.pointer (some ⟨b, 0, none⟩), Str t] w (RHearP k b S t w) := by
 have H0 : Hid (Blk w b 71 (rtc k s).toArray ∧ Step [b] [b] w w ∧ AnsAt w S s k.ans ∧ b ∈ S ∧ ∀ g ∈ S, g < w.heap.size) := Lib.hid ⟨h, Step.refl _ _, hA, hS⟩
 have HT := Lib.hid ht
 clear h hA hS ht
 have fc := H0.out.1.cell
 have f4 := fc 4
 clear fc
 simp only [rtc, rtb, List.getElem?_toArray, List.getElem?_cons_zero, List.getElem?_cons_succ] at f4
 have fl := H0.out.1.lt
 go_enter Try.func25, Try.ntmps25
 by_cases ho : k.op = []
 ·rw [isE_yes ho] at f4
  have HV : Hid (hearC k t = (k, false)) := Lib.hid (if_pos ho)
  clear ho
  go_wp2_with fail
  exact bodyPost_ret (results_tmp rfl _ _ _) rfl ⟨s, by rw [HV.out]; rfl, by rw [HV.out]; exact H0.out.1, H0.out.2.1, by rw [HV.out]; exact H0.out.2.2.1⟩
 ·rw [isE_no ho] at f4
  have HO := Lib.hid ho
  clear ho
  go_upto_region 4 with (refine (rnote_any t w (by have := HT.out; omega)).mono ?_; rintro x w1 ⟨rfl, k1⟩; have H1 : Hid (Blk w1 b 71 (rtc k s).toArray ∧ Step [b] [b] w w1 ∧ AnsAt w1 S s k.ans ∧ b ∈ S ∧ ∀ g ∈ S, g < w1.heap.size) := Lib.hid ⟨H0.out.1.step k1 (by simp), H0.out.2.1.trans (k1.keep [b]), H0.out.2.2.1.step k1 (by simp), H0.out.2.2.2.1, fun g hg => Nat.lt_of_lt_of_le (H0.out.2.2.2.2 g hg) k1.size⟩; clear k1 H0 f4 fl)
  obtain ⟨⟨ne, nl, ny⟩, hr⟩ : ∃ r, r = rdNote t := ⟨_, rfl⟩
  rw [← hr]
  have HR := Lib.hid hr.symm
  clear hr
  have HBS := Lib.hid H1.out.2.2.2
  go_cut [45] (fun v wx => ∃ bb : Bool, v = .bool bb ∧ Hid (wx = w1 ∧ noteK k t = if bb = true then {k with target := nl, waited := 0} else k))
  case first =>
   cases ny with
   | true =>
    by_cases q1 : ne = 20
    ·have q1d : (ne == 20) = true := by simpa using q1
     by_cases q2 : 0 < nl
     ·have q2d : decide (0 < nl) = true := decide_eq_true q2
      by_cases q3 : nl ≤ k.size
      ·have q3d : decide (nl ≤ k.size) = true := decide_eq_true q3
       by_cases q4 : ¬ nl = k.target
       ·have q4d : (nl == k.target) = false := by simpa using q4
        have q4e : (nl != k.target) = true := by simpa using q4
        have HV : Hid (noteK k t = {k with target := nl, waited := 0}) := Lib.hid (by rw [noteK, HR.out, if_pos rfl, hearN, if_pos ⟨q1, (by show 1 ≤ nl; omega), q3, q4⟩])
        clear q1 q2 q3 q4
        have fc := H1.out.1.cell
        have f1 := fc 1
        have f7 := fc 7
        clear fc
        simp only [rtc, rtb, List.getElem?_toArray, List.getElem?_cons_zero, List.getElem?_cons_succ] at f1 f7
        have fl := H1.out.1.lt
        go_wp2_with fail
        go_meet
        exact ⟨true, rfl, Lib.hid ⟨rfl, by rw [HV.out]; rfl⟩⟩
       ·have q4d : (nl == k.target) = true := by simpa using q4
        have q4e : (nl != k.target) = false := by simpa using q4
        have HV : Hid (noteK k t = k) := Lib.hid (by rw [noteK, HR.out, if_pos rfl, hearN, if_neg (fun hq => q4 (by have := hq.2.2.2; first | exact this | (dsimp only at this; omega)))])
        clear q1 q2 q3 q4
        have fc := H1.out.1.cell
        have f1 := fc 1
        have f7 := fc 7
        clear fc
        simp only [rtc, rtb, List.getElem?_toArray, List.getElem?_cons_zero, List.getElem?_cons_succ] at f1 f7
        have fl := H1.out.1.lt
        go_wp2_with fail
        go_meet
        exact ⟨false, rfl, Lib.hid ⟨rfl, by rw [HV.out]; rfl⟩⟩
      ·have q3d : decide (nl ≤ k.size) = false := decide_eq_false q3
       have HV : Hid (noteK k t = k) := Lib.hid (by rw [noteK, HR.out, if_pos rfl, hearN, if_neg (fun hq => q3 (by have := hq.2.2.1; first | exact this | (dsimp only at this; omega)))])
       clear q1 q2 q3
       have fc := H1.out.1.cell
       have f1 := fc 1
       have f7 := fc 7
       clear fc
       simp only [rtc, rtb, List.getElem?_toArray, List.getElem?_cons_zero, List.getElem?_cons_succ] at f1 f7
       have fl := H1.out.1.lt
       go_wp2_with fail
       go_meet
       exact ⟨false, rfl, Lib.hid ⟨rfl, by rw [HV.out]; rfl⟩⟩
     ·have q2d : decide (0 < nl) = false := decide_eq_false q2
      have HV : Hid (noteK k t = k) := Lib.hid (by rw [noteK, HR.out, if_pos rfl, hearN, if_neg (fun hq => q2 (by have := hq.2.1; first | exact this | (dsimp only at this; omega)))])
      clear q1 q2
      have fc := H1.out.1.cell
      have f1 := fc 1
      have f7 := fc 7
      clear fc
      simp only [rtc, rtb, List.getElem?_toArray, List.getElem?_cons_zero, List.getElem?_cons_succ] at f1 f7
      have fl := H1.out.1.lt
      go_wp2_with fail
      go_meet
      exact ⟨false, rfl, Lib.hid ⟨rfl, by rw [HV.out]; rfl⟩⟩
    ·have q1d : (ne == 20) = false := by simpa using q1
     have HV : Hid (noteK k t = k) := Lib.hid (by rw [noteK, HR.out, if_pos rfl, hearN, if_neg (fun hq => q1 (by have := hq.1; first | exact this | (dsimp only at this; omega)))])
     clear q1
     have fc := H1.out.1.cell
     have f1 := fc 1
     have f7 := fc 7
     clear fc
     simp only [rtc, rtb, List.getElem?_toArray, List.getElem?_cons_zero, List.getElem?_cons_succ] at f1 f7
     have fl := H1.out.1.lt
     go_wp2_with fail
     go_meet
     exact ⟨false, rfl, Lib.hid ⟨rfl, by rw [HV.out]; rfl⟩⟩
   | false =>
    have HV : Hid (noteK k t = k) := Lib.hid (by rw [noteK, HR.out, if_neg (by simp)])
    go_wp2_with fail
    go_meet
    exact ⟨false, rfl, Lib.hid ⟨rfl, by rw [HV.out]; rfl⟩⟩
  case rest =>
   rename World => Xq
   obtain ⟨bb, rfl, HQ9⟩ := hcut
   obtain ⟨hw9, hn9⟩ := HQ9.out
   subst hw9
   have HNB := Lib.hid hn9
   clear HQ9 hn9
   go_upto_if 45 with fail
   go_cut [] (fun wx => Hid (Blk wx b 71 (rtc (noteK k t) s).toArray ∧ Step [b] [b] w wx ∧ AnsAt wx S s k.ans ∧ Xq.heap.size ≤ wx.heap.size))
   case first =>
    cases bb with
    | true =>
     have HV : Hid (noteK k t = {k with target := nl, waited := 0}) := Lib.hid (by rw [HNB.out, if_pos rfl])
     have fc := H1.out.1.cell
     have f7 := fc 7
     have f8 := fc 8
     clear fc
     simp only [rtc, rtb, List.getElem?_toArray, List.getElem?_cons_zero, List.getElem?_cons_succ] at f7 f8
     have fl := H1.out.1.lt
     have ff7 := H1.out.1.frozen 7
     have ff8 := H1.out.1.frozen 8
     go_wp2_with fail
     go_meet
     rw [HV.out]
     have ss : Step [b] [b] Xq ((Xq.setCell ⟨b, 7, none⟩ (.int .i64 nl)).setCell ⟨b, 8, none⟩ (.int .i64 0)) := ((Step.refl [b] Xq).setCell (.inl (by simp)) _).setCell (.inl (by simp)) _
     refine Lib.hid ⟨?_, H1.out.2.1.trans ss, H1.out.2.2.1.step ss (by have := HBS.out.1; simpa using this), ss.size⟩
     have hq := (H1.out.1.set 7 (.int .i64 nl)).set 8 (.int .i64 0)
     simpa [rtc, rtb] using hq
    | false =>
     have HV : Hid (noteK k t = k) := Lib.hid (by rw [HNB.out, if_neg (by simp)])
     go_wp2_with fail
     go_meet
     rw [HV.out]
     exact Lib.hid ⟨H1.out.1, H1.out.2.1, H1.out.2.2.1, Nat.le_refl _⟩
   case rest =>
    rename World => X0
    have HX0 := hcut
    clear H1
    go_wp2_with fail
    refine (refReadA_any t X0 HT.out).mono ?_
    rintro e w2 ⟨k2, h2⟩
    have H2 : Hid (Blk w2 b 71 (rtc (noteK k t) s).toArray ∧ Step [b] [b] w w2 ∧ AnsAt w2 S s k.ans ∧ ∀ g ∈ S, g < X0.heap.size) := Lib.hid ⟨HX0.out.1.step k2 (by simp), HX0.out.2.1.trans (k2.keep [b]), HX0.out.2.2.1.step k2 (by simp), fun g hg => Nat.lt_of_lt_of_le (HBS.out.2 g hg) HX0.out.2.2.2⟩
    clear k2 HX0
    have HBM := Lib.hid HBS.out.1
    cases hd : decA t with
    | none =>
     have HV := Lib.hid (hear_none HO.out hd)
     rcases h2 with ⟨h21, h22, _⟩ | ⟨_, rfl⟩
     ·exact absurd ⟨h21, h22⟩ (refQ_no HT.out hd)
     ·clear hd
      go_upto_region 7 with fail
      have k4 := (Step.refl [] w2).alloc (.cells #[.int .i64 0, .int .i64 0, .int .i64 0, .int .i64 0, .bool false, .slice none 0 0, .string ⟨#[]⟩] 54)
      have b4 := Blk.new w2 54 #[.int .i64 0, .int .i64 0, .int .i64 0, .int .i64 0, .bool false, .slice none 0 0, .string ⟨#[]⟩]
      obtain ⟨ab, hab⟩ : ∃ b3, b3 = w2.heap.size := ⟨_, rfl⟩
      obtain ⟨V3, hV3⟩ : ∃ V3, V3 = w2.alloc (.cells #[.int .i64 0, .int .i64 0, .int .i64 0, .int .i64 0, .bool false, .slice none 0 0, .string ⟨#[]⟩] 54) := ⟨_, rfl⟩
      rw [← hV3] at k4 b4 ⊢
      rw [← hab] at b4 ⊢
      have HNE : Hid (b ≠ ab ∧ w.heap.size ≤ ab) := Lib.hid ⟨by have := H2.out.1.lt; omega, by have := H2.out.2.1.size; omega⟩
      clear hab hV3
      have H3 : Hid (Blk V3 b 71 (rtc (noteK k t) s).toArray ∧ Step [b] [b] w V3 ∧ AnsAt V3 S s k.ans ∧ Blk V3 ab 54 #[.int .i64 0, .int .i64 0, .int .i64 0, .int .i64 0, .bool false, .slice none 0 0, .string ⟨#[]⟩]) := Lib.hid ⟨H2.out.1.step k4 (by simp), H2.out.2.1.trans (k4.keep [b]), H2.out.2.2.1.step k4 (by simp), b4⟩
      go_wp2_with fail
      go_quiet (fail)
      go_wp2_with fail
      have HNA : Hid ((noteK k t).ans = k.ans) := Lib.hid (noteK_ans k t)
      exact bodyPost_ret (results_tmp rfl _ _ _) rfl ⟨s, by rw [HV.out]; rfl, by rw [HV.out]; exact H3.out.1.step ((Step.refl [] V3).drewN _) (by simp), H3.out.2.1.drewN _, by rw [HV.out]; exact (by show AnsAt _ S s (noteK k t).ans; rw [HNA.out]; exact H3.out.2.2.1.step ((Step.refl [] V3).drewN _) (by simp))⟩
    | some x =>
     obtain ⟨HNK, HHC⟩ := hear_some HO.out hd
     rw [HNK] at H2
     obtain ⟨ha, hb2, hc, hd2⟩ := refQ_yes HT.out hd
     rw [ha] at h2
     rcases h2 with ⟨_, _, m, a, c, rfl, hm, hrd, hfr⟩ | ⟨hno, rfl⟩
     ·have HHV := Lib.hid HHC
      have HA := Lib.hid (And.intro hm (And.intro hrd hfr))
      clear hm hrd hfr ha hb2 hc hd2 HHC HNK hd
      go_upto_region 7 with fail
      have k4 := (Step.refl [] w2).alloc (.cells #[.int .i64 x.client, .int .i64 x.seq, .int .i64 x.err, .int .i64 x.rev, .bool x.yes, .slice a m.length c, .string ⟨x.token.toArray⟩] 54)
      have b4 := Blk.new w2 54 #[.int .i64 x.client, .int .i64 x.seq, .int .i64 x.err, .int .i64 x.rev, .bool x.yes, .slice a m.length c, .string ⟨x.token.toArray⟩]
      obtain ⟨ab, hab⟩ : ∃ b3, b3 = w2.heap.size := ⟨_, rfl⟩
      obtain ⟨V3, hV3⟩ : ∃ V3, V3 = w2.alloc (.cells #[.int .i64 x.client, .int .i64 x.seq, .int .i64 x.err, .int .i64 x.rev, .bool x.yes, .slice a m.length c, .string ⟨x.token.toArray⟩] 54) := ⟨_, rfl⟩
      rw [← hV3] at k4 b4 ⊢
      rw [← hab] at b4 ⊢
      have HNE : Hid (b ≠ ab ∧ w.heap.size ≤ ab) := Lib.hid ⟨by have := H2.out.1.lt; omega, by have := H2.out.2.1.size; omega⟩
      clear hab hV3
      have H3 : Hid (Blk V3 b 71 (rtc k s).toArray ∧ Step [b] [b] w V3 ∧ AnsAt V3 S s k.ans ∧ Blk V3 ab 54 #[.int .i64 x.client, .int .i64 x.seq, .int .i64 x.err, .int .i64 x.rev, .bool x.yes, .slice a m.length c, .string ⟨x.token.toArray⟩]) := Lib.hid ⟨H2.out.1.step k4 (by simp), H2.out.2.1.trans (k4.keep [b]), H2.out.2.2.1.step k4 (by simp), b4⟩
      have HA2 : Hid (AnsAt V3 S (.slice a m.length c) x) := Lib.hid (AnsAt.step (AnsAt.new HA.out.1 HA.out.2.1 HA.out.2.2 H2.out.2.2.2) k4 (by simp))
      clear k4 b4 H2 HA
      have gc := H3.out.2.2.2.cell
      have g0 := gc 0
      have g1 := gc 1
      clear gc
      simp only [List.getElem?_nil, List.getElem?_toArray, List.getElem?_cons_zero, List.getElem?_cons_succ] at g0 g1
      have gl := H3.out.2.2.2.lt
      have fc := H3.out.1.cell
      have f0 := fc 0
      have f3 := fc 3
      clear fc
      simp only [rtc, rtb, List.getElem?_toArray, List.getElem?_cons_zero, List.getElem?_cons_succ] at f0 f3
      have fl := H3.out.1.lt
      by_cases q1 : x.client = k.id
      ·have q1e : (x.client != k.id) = false := by simpa using q1
       by_cases q2 : x.seq = k.seq
       ·have q2e : (x.seq != k.seq) = false := by simpa using q2
        have HV : Hid (hearC k t = (hearA k x, true)) := Lib.hid (by rw [HHV.out, if_pos ⟨q1, q2⟩])
        clear q1 q2
        go_upto_region 9 with (go_quiet (fail))
        clear q1e q2e g0 g1 gl f0 f3 fl
        obtain ⟨X1, hX1⟩ : ∃ U, U = V3.drewN nq := ⟨_, rfl⟩
        have H4 : Hid (Blk X1.drew b 71 (rtc k s).toArray ∧ Step [b] [b] w X1.drew ∧ AnsAt X1.drew S (.slice a m.length c) x ∧ Blk X1.drew ab 54 #[.int .i64 x.client, .int .i64 x.seq, .int .i64 x.err, .int .i64 x.rev, .bool x.yes, .slice a m.length c, .string ⟨x.token.toArray⟩] ∧ Blk X1 ab 54 #[.int .i64 x.client, .int .i64 x.seq, .int .i64 x.err, .int .i64 x.rev, .bool x.yes, .slice a m.length c, .string ⟨x.token.toArray⟩]) := Lib.hid (by rw [hX1]; have kq := ((Step.refl [] V3).drewN nq); have kr := kq.drew; exact ⟨H3.out.1.step kr (by simp), H3.out.2.1.trans (kr.keep [b]), HA2.out.step kr (by simp), H3.out.2.2.2.step kr (by simp), H3.out.2.2.2.step kq (by simp)⟩)
        rw [← hX1]
        clear hX1 H3 HA2
        refine wp_region_held_drew (S := fun W => Hid (Blk W ab 54 #[.int .i64 x.client, .int .i64 x.seq, .int .i64 x.err, .int .i64 x.rev, .bool x.yes, .slice a m.length c, .string ⟨x.token.toArray⟩])) (by kernel_rfl) (Lib.hid H4.out.2.2.2.2) (fun hHeld => ?_)
        refine wpAnyH_take (i := 0) (v := ?_) rfl (by kernel_rfl) (by kernel_rfl) (by kernel_rfl) (fun _ _ _ h => h) (Or.inl ⟨by rfl, ?_⟩) hHeld ?_
        rotate_left
        ·intro w hSw1
         try dsimp only at hSw1
         go_simp
         try (with_reducible rfl)
        try simp only [Act.put, LsA, LsB, LsC, LsD, LsE, LsF]
        refine wpAnyH_take (i := 1) (v := ?_) rfl (by kernel_rfl) (by kernel_rfl) (by kernel_rfl) (fun _ _ _ h => h) (Or.inl ⟨by rfl, ?_⟩) hHeld ?_
        rotate_left
        ·intro w hSw1
         try dsimp only at hSw1
         go_simp
         try (with_reducible rfl)
        try simp only [Act.put, LsA, LsB, LsC, LsD, LsE, LsF]
        refine wpAnyH_take (i := 2) (v := ?_) rfl (by kernel_rfl) (by kernel_rfl) (by kernel_rfl) (fun _ _ _ h => h) (Or.inl ⟨by rfl, ?_⟩) hHeld ?_
        rotate_left
        ·intro w hSw1
         try dsimp only at hSw1
         go_simp
         try (with_reducible rfl)
        try simp only [Act.put, LsA, LsB, LsC, LsD, LsE, LsF]
        refine wpAnyH_take (i := 3) (v := ?_) rfl (by kernel_rfl) (by kernel_rfl) (by kernel_rfl) (fun _ _ _ h => h) (Or.inl ⟨by rfl, ?_⟩) hHeld ?_
        rotate_left
        ·intro w hSw1
         have tc := hSw1.out.cell
         have t0 := tc 0
         have t1 := tc 1
         have t2 := tc 2
         have t3 := tc 3
         have t4 := tc 4
         have t5 := tc 5
         have t6 := tc 6
         clear tc
         simp only [List.getElem?_toArray, List.getElem?_cons_zero, List.getElem?_cons_succ] at t0 t1 t2 t3 t4 t5 t6
         have tl := hSw1.out.lt
         go_simp
         try (with_reducible rfl)
        try simp only [Act.put, LsA, LsB, LsC, LsD, LsE, LsF]
        refine wpAnyH_take (i := 4) (v := ?_) rfl (by kernel_rfl) (by kernel_rfl) (by kernel_rfl) (fun _ _ _ h => h) (Or.inl ⟨by rfl, ?_⟩) hHeld ?_
        rotate_left
        ·intro w hSw1
         try dsimp only at hSw1
         go_simp
         try (with_reducible rfl)
        try simp only [Act.put, LsA, LsB, LsC, LsD, LsE, LsF]
        refine wpAnyH_take (i := 5) (v := ?_) rfl (by kernel_rfl) (by kernel_rfl) (by kernel_rfl) (fun _ _ _ h => h) (Or.inl ⟨by rfl, ?_⟩) hHeld ?_
        rotate_left
        ·intro w hSw1
         try dsimp only at hSw1
         go_simp
         try (with_reducible rfl)
        try simp only [Act.put, LsA, LsB, LsC, LsD, LsE, LsF]
        refine wpAnyH_ready (rs := [6]) (by kernel_rfl) (by simp) ?_
        refine AllReadyH.cons rfl (fun K hK => ?_) AllReadyH.nil
        refine step_storeOff (v := .bool false) (b := b) (i := 4) (T := 4) (T' := 71) (cs := (rtc k s).toArray) (cs' := (rtb false k s).toArray) rfl (.tmp 83) (.const (.bool false)) rfl rfl rfl (by kernel_rfl) H4.out.1 (by simp [Value.cells, rtc, rtb]) (by simp [Value.cells, Value.oneCell']) rfl ?_; intro W4 wb wk; have HF := Lib.hid (And.intro wb wk); clear wb wk
        refine hK.out _ _ (Lib.hid (H4.out.2.2.2.1.step HF.out.2 (by have := HNE.out.1; simp; omega))) (fun hHeld2 => ?_)
        clear hK K hHeld
        try simp only [Act.put, LsA, LsB, LsC, LsD, LsE, LsF]
        refine wpAnyH_take (i := 7) (v := ?_) rfl (by kernel_rfl) (by kernel_rfl) (by kernel_rfl) (fun _ _ _ h => h) (Or.inl ⟨by rfl, ?_⟩) hHeld2 ?_
        rotate_left
        ·intro w hSw1
         try dsimp only at hSw1
         go_simp
         try (with_reducible rfl)
        try simp only [Act.put, LsA, LsB, LsC, LsD, LsE, LsF]
        refine wpAnyH_take (i := 8) (v := ?_) rfl (by kernel_rfl) (by kernel_rfl) (by kernel_rfl) (fun _ _ _ h => h) (Or.inl ⟨by rfl, ?_⟩) hHeld2 ?_
        rotate_left
        ·intro w hSw1
         try dsimp only at hSw1
         go_simp
         try (with_reducible rfl)
        try simp only [Act.put, LsA, LsB, LsC, LsD, LsE, LsF]
        refine wpAnyH_ready (rs := [9]) (by kernel_rfl) (by simp) ?_
        refine AllReadyH.cons rfl (fun K hK => ?_) AllReadyH.nil
        refine step_storeOff (v := .string ⟨#[]⟩) (b := b) (i := 5) (T := 9) (T' := 71) (cs := (rtb false k s).toArray) (cs' := (rtb false {k with op := []} s).toArray) rfl (.tmp 85) (.const (.string ⟨#[]⟩)) rfl rfl rfl (by kernel_rfl) HF.out.1 (by simp [Value.cells, rtc, rtb]) (by simp [Value.cells, Value.oneCell']) rfl ?_; intro W5 wb wk; have HG := Lib.hid (And.intro wb wk); clear wb wk
        refine hK.out _ _ (Lib.hid ((H4.out.2.2.2.1.step HF.out.2 (by have := HNE.out.1; simp; omega)).step HG.out.2 (by have := HNE.out.1; simp; omega))) (fun hHeld3 => ?_)
        clear hK K hHeld2
        try simp only [Act.put, LsA, LsB, LsC, LsD, LsE, LsF]
        refine wpAnyH_take (i := 10) (v := ?_) rfl (by kernel_rfl) (by kernel_rfl) (by kernel_rfl) (fun _ _ _ h => h) (Or.inl ⟨by rfl, ?_⟩) hHeld3 ?_
        rotate_left
        ·intro w hSw1
         try dsimp only at hSw1
         go_simp
         try (with_reducible rfl)
        try simp only [Act.put, LsA, LsB, LsC, LsD, LsE, LsF]
        refine wpAnyH_take (i := 11) (v := ?_) rfl (by kernel_rfl) (by kernel_rfl) (by kernel_rfl) (fun _ _ _ h => h) (Or.inl ⟨by rfl, ?_⟩) hHeld3 ?_
        rotate_left
        ·intro w hSw1
         try dsimp only at hSw1
         go_simp
         try (with_reducible rfl)
        try simp only [Act.put, LsA, LsB, LsC, LsD, LsE, LsF]
        refine wpAnyH_ready (rs := [12]) (by kernel_rfl) (by simp) ?_
        refine AllReadyH.cons rfl (fun K hK => ?_) AllReadyH.nil
        refine step_storeOff (v := anV x (.slice a m.length c)) (b := b) (i := 9) (T := 54) (T' := 71) (cs := (rtb false {k with op := []} s).toArray) (cs' := (rtb false {k with op := [], ans := x} (.slice a m.length c)).toArray) rfl (.tmp 87) (.tmp 81) rfl rfl rfl (by kernel_rfl) HG.out.1 (by simp [Value.cells, rtc, rtb]) (by simp [Value.cells, Value.oneCell']) rfl ?_; intro W6 wb wk; have HI := Lib.hid (And.intro wb wk); clear wb wk
        refine hK.out _ _ (Lib.hid (((H4.out.2.2.2.1.step HF.out.2 (by have := HNE.out.1; simp; omega)).step HG.out.2 (by have := HNE.out.1; simp; omega)).step HI.out.2 (by have := HNE.out.1; simp; omega))) (fun hHeld4 => ?_)
        clear hK K hHeld3
        try simp only [Act.put, LsA, LsB, LsC, LsD, LsE, LsF]
        refine wpAnyH_done (by kernel_rfl) ?_ _
        have H6 : Hid (Blk W6 b 71 (rtc {k with op := [], ans := x} (.slice a m.length c)).toArray ∧ Step [b] [b] w W6 ∧ AnsAt W6 S (.slice a m.length c) x ∧ Blk W6 ab 54 #[.int .i64 x.client, .int .i64 x.seq, .int .i64 x.err, .int .i64 x.rev, .bool x.yes, .slice a m.length c, .string ⟨x.token.toArray⟩]) := Lib.hid ⟨HI.out.1, ((H4.out.2.1.trans HF.out.2).trans HG.out.2).trans HI.out.2, (((H4.out.2.2.1.step HF.out.2 (by simpa using HBM.out)).step HG.out.2 (by simpa using HBM.out)).step HI.out.2 (by simpa using HBM.out)), (((H4.out.2.2.2.1.step HF.out.2 (by have := HNE.out.1; simp; omega)).step HG.out.2 (by have := HNE.out.1; simp; omega)).step HI.out.2 (by have := HNE.out.1; simp; omega))⟩
        clear H4 HF HG HI
        have gc := H6.out.2.2.2.cell
        have g6 := gc 6
        clear gc
        simp only [List.getElem?_nil, List.getElem?_toArray, List.getElem?_cons_zero, List.getElem?_cons_succ] at g6
        have gl := H6.out.2.2.2.lt
        by_cases q3 : x.token = []
        ·have e1 : decide (0 < x.token.length) = false := by simp [q3]
         have HW : Hid (hearA k x = {k with op := [], ans := x}) := Lib.hid (by rw [hearA, if_pos q3])
         clear q3
         go_wp2_with fail
         exact bodyPost_ret (results_tmp rfl _ _ _) rfl ⟨(.slice a m.length c), by rw [HV.out]; rfl, by rw [HV.out, HW.out]; exact H6.out.1, H6.out.2.1, by rw [HV.out]; exact H6.out.2.2.1⟩
        ·have e1 : decide (0 < x.token.length) = true := by cases hx : x.token with | nil => exact absurd hx q3 | cons => simp
         have HW : Hid (hearA k x = {k with op := [], ans := x, tok := x.token}) := Lib.hid (by rw [hearA, if_neg q3])
         clear q3
         have fc := H6.out.1.cell
         have f6 := fc 6
         clear fc
         simp only [rtc, rtb, List.getElem?_toArray, List.getElem?_cons_zero, List.getElem?_cons_succ] at f6
         have fl := H6.out.1.lt
         have ff6 := H6.out.1.frozen 6
         go_wp2_with fail
         refine bodyPost_ret (results_tmp rfl _ _ _) rfl ⟨(.slice a m.length c), by rw [HV.out]; rfl, ?_, ?_, ?_⟩
         ·rw [HV.out, HW.out]
          have hq := H6.out.1.set 6 (Str x.token)
          simpa [rtc, rtb] using hq
         ·exact H6.out.2.1.setCell (.inl (by simp)) _
         ·rw [HV.out]
          exact H6.out.2.2.1.step ((Step.refl [b] W6).setCell (.inl (by simp)) _) (by simpa using HBM.out)
       ·have q2e : (x.seq != k.seq) = true := by simpa using q2
        have Q2 := Lib.hid q2
        clear q1 q2
        have HV : Hid (hearC k t = (k, false)) := Lib.hid (by rw [HHV.out, if_neg (fun hq => Q2.out hq.2)])
        go_wp2_with fail
        go_quiet (fail)
        go_wp2_with fail
        exact bodyPost_ret (results_tmp rfl _ _ _) rfl ⟨s, by rw [HV.out]; rfl, by rw [HV.out]; exact H3.out.1.step ((Step.refl [] V3).drewN _) (by simp), H3.out.2.1.drewN _, by rw [HV.out]; exact H3.out.2.2.1.step ((Step.refl [] V3).drewN _) (by simp)⟩
      ·have q1e : (x.client != k.id) = true := by simpa using q1
       have Q1 := Lib.hid q1
       clear q1
       have HV : Hid (hearC k t = (k, false)) := Lib.hid (by rw [HHV.out, if_neg (fun hq => Q1.out hq.1)])
       go_wp2_with fail
       go_quiet (fail)
       go_wp2_with fail
       exact bodyPost_ret (results_tmp rfl _ _ _) rfl ⟨s, by rw [HV.out]; rfl, by rw [HV.out]; exact H3.out.1.step ((Step.refl [] V3).drewN _) (by simp), H3.out.2.1.drewN _, by rw [HV.out]; exact H3.out.2.2.1.step ((Step.refl [] V3).drewN _) (by simp)⟩
     ·exact absurd ⟨hc, hb2⟩ hno
end Go.Proofs.Ytjfaplmojpldhaa
