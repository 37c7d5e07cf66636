/-
 A client hears: an answer of its own request, a note, or anything else. Condition: at most 2^40 bytes are heard.
-/
import Derived.Test.YtjfaplmojpldhaaZGA
import Derived.Test.YtjfaplmojpldhaaZCli
import Derived.Test.YtjfaplmojpldhaaZCliNote
import Derived.Test.YtjfaplmojpldhaaZAnsDec
namespace Go.Proofs.Ytjfaplmojpldhaa
open Go.RowKit
set_option linter.unusedSimpArgs false
set_option linter.unusedVariables false
set_option maxRecDepth 100000

/-- An answer's outs (value `v`) in memory, none of it in a block of `S`. -/
def AnsAt (w : World) (S : List Nat) (v : Value) (x : An) : Prop :=
 ∃ (m : List Om) (a : Option Addr) (c : Nat), v = .slice a m.length c ∧ m.map (·.o) = x.outs ∧ RdO w a m ∧ (∀ g ∈ blks a, g ∉ S) ∧ ∀ y ∈ m, ∀ g ∈ blks y.a, g ∉ S
theorem AnsAt.step {w w' : World} {S S1 S2 : List Nat} {v : Value} {x : An} (h : AnsAt w S v x) (k : Step S1 S2 w w') (hs : ∀ g ∈ S1, g ∈ S) : AnsAt w' S v x := by
 obtain ⟨m, a, c, h1, h2, h3, h4, h5⟩ := h
 exact ⟨m, a, c, h1, h2, ⟨h3.row.step k (fun g hg h => h4 g hg (hs g h)), fun y hy => (h3.prs y hy).step k (fun g hg h => h5 y hy g hg (hs g h))⟩, h4, h5⟩
theorem AnsAt.zero (w : World) (S : List Nat) : AnsAt w S (.slice none 0 0) anZ := ⟨[], none, 0, rfl, rfl, RdO.nil w, by simp [blks], by simp⟩
theorem AnsAt.new {w w' : World} {S : List Nat} {x : An} {m : List Om} {a : Option Addr} {c : Nat} (h1 : m.map (·.o) = x.outs) (h2 : RdO w' a m) (h3 : FreshO w a m) (hs : ∀ g ∈ S, g < w.heap.size) : AnsAt w' S (.slice a m.length c) x :=
 ⟨m, a, c, rfl, h1, h2, fun g hg hm => by have := h3.o g hg; have := hs g hm; omega, fun y hy g hg hm => by have := h3.p y hy g hg; have := hs g hm; omega⟩
theorem AnsAt.one {w : World} {S : List Nat} {v : Value} {x : An} (h : AnsAt w S v x) : v.oneCell' = true := by
 obtain ⟨m, a, c, h1, _⟩ := h
 rw [h1]; rfl
def hearN (k : Ct) (e l : Int) : Ct := if e = 20 ∧ 1 ≤ l ∧ l ≤ k.size ∧ ¬ l = k.target then {k with target := l, waited := 0} else k
def hearA (k : Ct) (x : An) : Ct := {k with op := [], ans := x, tok := if x.token = [] then k.tok else x.token}
def hearC (k : Ct) (t : List UInt8) : Ct × Bool :=
 if k.op = [] then (k, false)
 else if (rdNote t).2.2 = true then (hearN k (rdNote t).1 (rdNote t).2.1, false)
 else match decA t with
  | some x => if x.client = k.id ∧ x.seq = k.seq then (hearA k x, true) else (k, false)
  | none => (k, false)
theorem tok_short {x : An} {t : List UInt8} (h : decA t = some x) : x.token.length ≤ 2097152 := by
 obtain ⟨h1, -⟩ := decA_some h
 obtain ⟨-, -, h2⟩ := rightA_of h1
 have : x.token.length ≤ (ansB x).length := by
  simp only [ansB, ansIts, itsB_cons, itsB_app, List.length_append, tI_B]
  omega
 omega
theorem hearC_b {k : Ct} {t : List UInt8} (h : CtB k) : CtB (hearC k t).1 := by
 obtain ⟨h1, h2, h3, h4, h5, h6, h7⟩ := h
 unfold hearC
 split
 ·exact ⟨h1, h2, h3, h4, h5, h6, h7⟩
 ·split
  ·simp only [hearN]
   split
   ·rename_i hq
    exact ⟨h1, h2, h3, h4, ⟨hq.2.1, hq.2.2.1⟩, by simp only; omega, h7⟩
   ·exact ⟨h1, h2, h3, h4, h5, h6, h7⟩
  ·split
   ·rename_i x hx
    split
    ·refine ⟨h1, h2, h3, h4, h5, h6, ?_⟩
     have := tok_short hx
     simp only [hearA]
     split
     ·exact h7
     ·omega
    ·exact ⟨h1, h2, h3, h4, h5, h6, h7⟩
   ·exact ⟨h1, h2, h3, h4, h5, h6, h7⟩
theorem hearC_note {k : Ct} {t : List UInt8} {e l : Int} (h0 : ¬ k.op = []) (hn : rdNote t = (e, l, true)) : hearC k t = (hearN k e l, false) := by
 unfold hearC
 rw [if_neg h0, hn]
 simp
theorem hearC_none {k : Ct} {t : List UInt8} {e l : Int} (h0 : ¬ k.op = []) (hn : rdNote t = (e, l, false)) (hd : decA t = none) : hearC k t = (k, false) := by
 unfold hearC
 rw [if_neg h0, hn, hd]
 simp
theorem hearC_unlike {k : Ct} {t : List UInt8} {e l : Int} {x : An} (h0 : ¬ k.op = []) (hn : rdNote t = (e, l, false)) (hd : decA t = some x) (hx : ¬ (x.client = k.id ∧ x.seq = k.seq)) : hearC k t = (k, false) := by
 unfold hearC
 rw [if_neg h0, hn, hd]
 simp [hx]
theorem hearC_yes {k : Ct} {t : List UInt8} {e l : Int} {x : An} (h0 : ¬ k.op = []) (hn : rdNote t = (e, l, false)) (hd : decA t = some x) (hx : x.client = k.id ∧ x.seq = k.seq) : hearC k t = (hearA k x, true) := by
 unfold hearC
 rw [if_neg h0, hn, hd]
 simp [hx]
def HearP (k : Ct) (b : Nat) (S : List Nat) (t : List UInt8) (w : World) (e : Ending) (w' : World) : Prop :=
 ∃ s' : Value, e = .returned (.bool (hearC k t).2) ∧ Blk w' b 95 (ctc (hearC k t).1 s').toArray ∧ Step [b] [b] w w' ∧ AnsAt w' S s' (hearC k t).1.ans
set_option maxHeartbeats 8000000 in
theorem hear_any (k : Ct) (s : Value) (b : Nat) (S : List Nat) (t : List UInt8) (w : World) (h : Blk w b 95 (ctc k s).toArray) (hS : b ∈ S ∧ ∀ g ∈ S, g < w.heap.size) (hA : AnsAt w S s k.ans) (ht : t.length ≤ 1099511627776) : Calls Try.prog 15 #[.pointer (some ⟨b, 0, none⟩), Str t] w (HearP k b S t w) := by
 have H0 : Hid (Blk w b 95 (ctc k s).toArray ∧ Step [b] [b] w w ∧ AnsAt w S s k.ans ∧ b ∈ S ∧ ∀ g ∈ S, g < w.heap.size) := Lib.hid ⟨h, Step.refl _ _, hA, hS⟩
 have HT := Lib.hid ht
 clear h hA hS ht
 have fc := H0.out.1.cell
 have f4 := fc 4
 clear fc
 simp only [ctc, List.getElem?_toArray, List.getElem?_cons_zero, List.getElem?_cons_succ] at f4
 have fl := H0.out.1.lt
 go_enter Try.func15, Try.ntmps15
 by_cases ho : k.op = []
 ·have hob : (k.op == []) = true := by simp [ho]
  have HV : Hid (hearC k t = (k, false)) := Lib.hid (if_pos ho)
  clear ho
  go_wp2_with fail
  refine bodyPost_ret (results_tmp rfl _ _ _) rfl ⟨s, by rw [HV.out]; rfl, by rw [HV.out]; exact H0.out.1, H0.out.2.1, by rw [HV.out]; exact H0.out.2.2.1⟩
 ·have hob : (k.op == []) = false := by simpa using ho
  have HO := Lib.hid ho
  clear ho
  go_wp2_with fail
  refine (readNote_any t w HT.out).mono ?_
  rintro x w1 ⟨rfl, k1⟩
  have H1 : Hid (Blk w1 b 95 (ctc k s).toArray ∧ Step [b] [b] w w1 ∧ AnsAt w1 S s k.ans ∧ b ∈ S ∧ ∀ g ∈ S, g < w1.heap.size) := Lib.hid ⟨H0.out.1.step k1 (by simp), H0.out.2.1.trans (k1.keep [b]), H0.out.2.2.1.step k1 (by simp), H0.out.2.2.2.1, fun g hg => Nat.lt_of_lt_of_le (H0.out.2.2.2.2 g hg) k1.size⟩
  clear k1 H0 hob f4 fl
  obtain ⟨⟨ne, nl, ny⟩, hr⟩ : ∃ r, r = rdNote t := ⟨_, rfl⟩
  rw [← hr]
  have HR := Lib.hid hr.symm
  clear hr
  cases ny with
  | true =>
   by_cases q1 : ne = 20
   ·have q1d : (ne == 20) = true := by simpa using q1
    by_cases q2 : 1 ≤ nl
    ·have q2d : decide (1 ≤ nl) = true := decide_eq_true q2
     by_cases q3 : nl ≤ k.size
     ·have q3d : decide (nl ≤ k.size) = true := decide_eq_true q3
      by_cases q4 : ¬ nl = k.target
      ·have q4d : (nl == k.target) = false := by simpa using q4
       have HV : Hid (hearC k t = ({k with target := nl, waited := 0}, false)) := Lib.hid (by rw [hearC_note HO.out HR.out, hearN, if_pos ⟨q1, q2, q3, q4⟩])
       clear q1 q2 q3 q4
       have fc := H1.out.1.cell
       have f1 := fc 1
       have f6 := fc 6
       have f7 := fc 7
       clear fc
       simp only [ctc, List.getElem?_toArray, List.getElem?_cons_zero, List.getElem?_cons_succ] at f1 f6 f7
       have fl := H1.out.1.lt
       have ff1 := H1.out.1.frozen 1
       have ff6 := H1.out.1.frozen 6
       have ff7 := H1.out.1.frozen 7
       go_wp2_with fail
       refine bodyPost_ret (results_tmp rfl _ _ _) rfl ⟨s, by rw [HV.out]; rfl, ?_, ?_, ?_⟩
       ·rw [HV.out]
        have hq := (H1.out.1.set 6 (.int .i64 nl)).set 7 (.int .i64 0)
        simpa [ctc] using hq
       ·exact H1.out.2.1.trans (((Step.refl [b] _).setCell (.inl (by simp)) _).setCell (.inl (by simp)) _)
       ·rw [HV.out]
        exact H1.out.2.2.1.step (((Step.refl [b] w1).setCell (.inl (by simp)) _).setCell (.inl (by simp)) _) (by have := H1.out.2.2.2.1; simpa using this)
      ·have q4d : (nl == k.target) = true := by simpa using q4
       have HV : Hid (hearC k t = (k, false)) := Lib.hid (by rw [hearC_note HO.out HR.out, hearN, if_neg (fun hq => q4 hq.2.2.2)])
       clear q1 q2 q3 q4
       have fc := H1.out.1.cell
       have f1 := fc 1
       have f6 := fc 6
       clear fc
       simp only [ctc, List.getElem?_toArray, List.getElem?_cons_zero, List.getElem?_cons_succ] at f1 f6
       have fl := H1.out.1.lt
       go_wp2_with fail
       refine bodyPost_ret (results_tmp rfl _ _ _) rfl ⟨s, by rw [HV.out]; rfl, by rw [HV.out]; exact H1.out.1, H1.out.2.1, by rw [HV.out]; exact H1.out.2.2.1⟩
     ·have q3d : decide (nl ≤ k.size) = false := decide_eq_false q3
      have HV : Hid (hearC k t = (k, false)) := Lib.hid (by rw [hearC_note HO.out HR.out, hearN, if_neg (fun hq => q3 hq.2.2.1)])
      clear q1 q2 q3
      have fc := H1.out.1.cell
      have f1 := fc 1
      have f6 := fc 6
      clear fc
      simp only [ctc, List.getElem?_toArray, List.getElem?_cons_zero, List.getElem?_cons_succ] at f1 f6
      have fl := H1.out.1.lt
      go_wp2_with fail
      refine bodyPost_ret (results_tmp rfl _ _ _) rfl ⟨s, by rw [HV.out]; rfl, by rw [HV.out]; exact H1.out.1, H1.out.2.1, by rw [HV.out]; exact H1.out.2.2.1⟩
    ·have q2d : decide (1 ≤ nl) = false := decide_eq_false q2
     have HV : Hid (hearC k t = (k, false)) := Lib.hid (by rw [hearC_note HO.out HR.out, hearN, if_neg (fun hq => q2 hq.2.1)])
     clear q1 q2
     have fc := H1.out.1.cell
     have f1 := fc 1
     have f6 := fc 6
     clear fc
     simp only [ctc, List.getElem?_toArray, List.getElem?_cons_zero, List.getElem?_cons_succ] at f1 f6
     have fl := H1.out.1.lt
     go_wp2_with fail
     refine bodyPost_ret (results_tmp rfl _ _ _) rfl ⟨s, by rw [HV.out]; rfl, by rw [HV.out]; exact H1.out.1, H1.out.2.1, by rw [HV.out]; exact H1.out.2.2.1⟩
   ·have q1d : (ne == 20) = false := by simpa using q1
    have HV : Hid (hearC k t = (k, false)) := Lib.hid (by rw [hearC_note HO.out HR.out, hearN, if_neg (fun hq => q1 hq.1)])
    clear q1
    have fc := H1.out.1.cell
    have f1 := fc 1
    have f6 := fc 6
    clear fc
    simp only [ctc, List.getElem?_toArray, List.getElem?_cons_zero, List.getElem?_cons_succ] at f1 f6
    have fl := H1.out.1.lt
    go_wp2_with fail
    refine bodyPost_ret (results_tmp rfl _ _ _) rfl ⟨s, by rw [HV.out]; rfl, by rw [HV.out]; exact H1.out.1, H1.out.2.1, by rw [HV.out]; exact H1.out.2.2.1⟩
  | false =>
   go_wp2_with fail
   refine (decodeA_any t w1 HT.out).mono ?_
   rintro e w2 ⟨k2, h2⟩
   have H2 : Hid (Blk w2 b 95 (ctc k s).toArray ∧ Step [b] [b] w w2 ∧ AnsAt w2 S s k.ans ∧ b ∈ S ∧ ∀ g ∈ S, g < w1.heap.size) := Lib.hid ⟨H1.out.1.step k2 (by simp), H1.out.2.1.trans (k2.keep [b]), H1.out.2.2.1.step k2 (by simp), H1.out.2.2.2⟩
   clear k2 H1
   rcases h2 with ⟨x, m, a, c, hx, rfl, hm, hrd, hfr⟩ | ⟨hx, rfl⟩
   ·have HX := Lib.hid hx
    have HA := Lib.hid (And.intro hm (And.intro hrd hfr))
    clear hx hm hrd hfr
    go_upto_region 9 with fail
    have k4 := (Step.refl [] w2).alloc (.cells #[.int .i64 x.client, .int .i64 x.seq, .int .i64 x.err, .int .i64 x.rev, .bool x.yes, .slice a m.length c, .string ⟨x.token.toArray⟩] 54)
    have b4 := Blk.new w2 54 #[.int .i64 x.client, .int .i64 x.seq, .int .i64 x.err, .int .i64 x.rev, .bool x.yes, .slice a m.length c, .string ⟨x.token.toArray⟩]
    obtain ⟨ab, hab⟩ : ∃ b3, b3 = w2.heap.size := ⟨_, rfl⟩
    obtain ⟨V3, hV3⟩ : ∃ V3, V3 = w2.alloc (.cells #[.int .i64 x.client, .int .i64 x.seq, .int .i64 x.err, .int .i64 x.rev, .bool x.yes, .slice a m.length c, .string ⟨x.token.toArray⟩] 54) := ⟨_, rfl⟩
    rw [← hV3] at k4 b4 ⊢
    rw [← hab] at b4 ⊢
    have HNE : Hid (b ≠ ab ∧ w.heap.size ≤ ab) := Lib.hid ⟨by have := H2.out.1.lt; omega, by have := H2.out.2.1.size; omega⟩
    clear hab hV3
    have H3 : Hid (Blk V3 b 95 (ctc k s).toArray ∧ Step [b] [b] w V3 ∧ AnsAt V3 S s k.ans ∧ Blk V3 ab 54 #[.int .i64 x.client, .int .i64 x.seq, .int .i64 x.err, .int .i64 x.rev, .bool x.yes, .slice a m.length c, .string ⟨x.token.toArray⟩]) := Lib.hid ⟨H2.out.1.step k4 (by simp), H2.out.2.1.trans (k4.keep [b]), H2.out.2.2.1.step k4 (by simp), b4⟩
    have HA2 : Hid (AnsAt V3 S (.slice a m.length c) x) := Lib.hid (AnsAt.step (AnsAt.new HA.out.1 HA.out.2.1 HA.out.2.2 H2.out.2.2.2.2) k4 (by simp))
    have HBS := Lib.hid H2.out.2.2.2.1
    clear k4 b4 H2 HA
    have gc := H3.out.2.2.2.cell
    have g0 := gc 0
    have g1 := gc 1
    clear gc
    simp only [List.getElem?_nil, List.getElem?_toArray, List.getElem?_cons_zero, List.getElem?_cons_succ] at g0 g1
    have gl := H3.out.2.2.2.lt
    have fc := H3.out.1.cell
    have f0 := fc 0
    have f3 := fc 3
    clear fc
    simp only [ctc, List.getElem?_toArray, List.getElem?_cons_zero, List.getElem?_cons_succ] at f0 f3
    have fl := H3.out.1.lt
    by_cases q1 : x.client = k.id
    ·have q1d : (x.client == k.id) = true := by simpa using q1
     have q1e : (x.client != k.id) = false := by simpa using q1
     by_cases q2 : x.seq = k.seq
     ·have q2d : (x.seq == k.seq) = true := by simpa using q2
      have q2e : (x.seq != k.seq) = false := by simpa using q2
      have HV : Hid (hearC k t = (hearA k x, true)) := Lib.hid (hearC_yes HO.out HR.out HX.out ⟨q1, q2⟩)
      clear q1 q2
      go_upto_region 11 with (go_quiet (fail))
      clear q1d q1e q2d q2e g0 g1 gl f0 f3 fl
      obtain ⟨X1, hX1⟩ : ∃ U, U = V3.drewN nq := ⟨_, rfl⟩
      have H4 : Hid (Blk X1.drew b 95 (ctc k s).toArray ∧ Step [b] [b] w X1.drew ∧ AnsAt X1.drew S (.slice a m.length c) x ∧ Blk X1.drew ab 54 #[.int .i64 x.client, .int .i64 x.seq, .int .i64 x.err, .int .i64 x.rev, .bool x.yes, .slice a m.length c, .string ⟨x.token.toArray⟩] ∧ Blk X1 ab 54 #[.int .i64 x.client, .int .i64 x.seq, .int .i64 x.err, .int .i64 x.rev, .bool x.yes, .slice a m.length c, .string ⟨x.token.toArray⟩]) := Lib.hid (by rw [hX1]; have kq := ((Step.refl [] V3).drewN nq); have kr := kq.drew; exact ⟨H3.out.1.step kr (by simp), H3.out.2.1.trans (kr.keep [b]), HA2.out.step kr (by simp), H3.out.2.2.2.step kr (by simp), H3.out.2.2.2.step kq (by simp)⟩)
      rw [← hX1]
      clear hX1 H3 HA2
      refine wp_region_held_drew (S := fun W => Hid (Blk W ab 54 #[.int .i64 x.client, .int .i64 x.seq, .int .i64 x.err, .int .i64 x.rev, .bool x.yes, .slice a m.length c, .string ⟨x.token.toArray⟩])) (by kernel_rfl) (Lib.hid H4.out.2.2.2.2) (fun hHeld => ?_)
      refine wpAnyH_take (i := 0) (v := ?_) rfl (by kernel_rfl) (by kernel_rfl) (by kernel_rfl) (fun _ _ _ h => h) (Or.inl ⟨by rfl, ?_⟩) hHeld ?_
      rotate_left
      ·intro w hSw1
       try dsimp only at hSw1
       go_simp
       try (with_reducible rfl)
      try simp only [Act.put, LsA, LsB, LsC, LsD, LsE, LsF]
      refine wpAnyH_take (i := 1) (v := ?_) rfl (by kernel_rfl) (by kernel_rfl) (by kernel_rfl) (fun _ _ _ h => h) (Or.inl ⟨by rfl, ?_⟩) hHeld ?_
      rotate_left
      ·intro w hSw1
       try dsimp only at hSw1
       go_simp
       try (with_reducible rfl)
      try simp only [Act.put, LsA, LsB, LsC, LsD, LsE, LsF]
      refine wpAnyH_take (i := 2) (v := ?_) rfl (by kernel_rfl) (by kernel_rfl) (by kernel_rfl) (fun _ _ _ h => h) (Or.inl ⟨by rfl, ?_⟩) hHeld ?_
      rotate_left
      ·intro w hSw1
       have tc := hSw1.out.cell
       have t0 := tc 0
       have t1 := tc 1
       have t2 := tc 2
       have t3 := tc 3
       have t4 := tc 4
       have t5 := tc 5
       have t6 := tc 6
       clear tc
       simp only [List.getElem?_toArray, List.getElem?_cons_zero, List.getElem?_cons_succ] at t0 t1 t2 t3 t4 t5 t6
       have tl := hSw1.out.lt
       go_simp
       try (with_reducible rfl)
      try simp only [Act.put, LsA, LsB, LsC, LsD, LsE, LsF]
      refine wpAnyH_take (i := 3) (v := ?_) rfl (by kernel_rfl) (by kernel_rfl) (by kernel_rfl) (fun _ _ _ h => h) (Or.inl ⟨by rfl, ?_⟩) hHeld ?_
      rotate_left
      ·intro w hSw1
       try dsimp only at hSw1
       go_simp
       try (with_reducible rfl)
      try simp only [Act.put, LsA, LsB, LsC, LsD, LsE, LsF]
      refine wpAnyH_take (i := 4) (v := ?_) rfl (by kernel_rfl) (by kernel_rfl) (by kernel_rfl) (fun _ _ _ h => h) (Or.inl ⟨by rfl, ?_⟩) hHeld ?_
      rotate_left
      ·intro w hSw1
       try dsimp only at hSw1
       go_simp
       try (with_reducible rfl)
      try simp only [Act.put, LsA, LsB, LsC, LsD, LsE, LsF]
      refine wpAnyH_ready (rs := [5]) (by kernel_rfl) (by simp) ?_
      refine AllReadyH.cons rfl (fun K hK => ?_) AllReadyH.nil
      refine step_storeOff (v := .string ⟨#[]⟩) (b := b) (i := 4) (T := 9) (T' := 95) (cs := (ctc k s).toArray) (cs' := (ctc {k with op := []} s).toArray) rfl (.tmp 86) (.const (.string ⟨#[]⟩)) rfl rfl rfl (by kernel_rfl) H4.out.1 (by simp [Value.cells, ctc]) (by simp [Value.cells, Value.oneCell']) rfl ?_; intro W4 wb wk; have HF := Lib.hid (And.intro wb wk); clear wb wk
      refine hK.out _ _ (Lib.hid (H4.out.2.2.2.1.step HF.out.2 (by have := HNE.out.1; simp; omega))) (fun hHeld2 => ?_)
      clear hK K hHeld
      try simp only [Act.put, LsA, LsB, LsC, LsD, LsE, LsF]
      refine wpAnyH_take (i := 6) (v := ?_) rfl (by kernel_rfl) (by kernel_rfl) (by kernel_rfl) (fun _ _ _ h => h) (Or.inl ⟨by rfl, ?_⟩) hHeld2 ?_
      rotate_left
      ·intro w hSw1
       try dsimp only at hSw1
       go_simp
       try (with_reducible rfl)
      try simp only [Act.put, LsA, LsB, LsC, LsD, LsE, LsF]
      refine wpAnyH_take (i := 7) (v := ?_) rfl (by kernel_rfl) (by kernel_rfl) (by kernel_rfl) (fun _ _ _ h => h) (Or.inl ⟨by rfl, ?_⟩) hHeld2 ?_
      rotate_left
      ·intro w hSw1
       try dsimp only at hSw1
       go_simp
       try (with_reducible rfl)
      try simp only [Act.put, LsA, LsB, LsC, LsD, LsE, LsF]
      refine wpAnyH_ready (rs := [8]) (by kernel_rfl) (by simp) ?_
      refine AllReadyH.cons rfl (fun K hK => ?_) AllReadyH.nil
      refine step_storeOff (v := anV x (.slice a m.length c)) (b := b) (i := 8) (T := 54) (T' := 95) (cs := (ctc {k with op := []} s).toArray) (cs' := (ctc {k with op := [], ans := x} (.slice a m.length c)).toArray) rfl (.tmp 88) (.tmp 84) rfl rfl rfl (by kernel_rfl) HF.out.1 (by simp [Value.cells, ctc]) (by simp [Value.cells, Value.oneCell']) rfl ?_; intro W5 wb wk; have HG := Lib.hid (And.intro wb wk); clear wb wk
      refine hK.out _ _ (Lib.hid ((H4.out.2.2.2.1.step HF.out.2 (by have := HNE.out.1; simp; omega)).step HG.out.2 (by have := HNE.out.1; simp; omega))) (fun hHeld3 => ?_)
      clear hK K hHeld2
      try simp only [Act.put, LsA, LsB, LsC, LsD, LsE, LsF]
      refine wpAnyH_done (by kernel_rfl) ?_ _
      have H6 : Hid (Blk W5 b 95 (ctc {k with op := [], ans := x} (.slice a m.length c)).toArray ∧ Step [b] [b] w W5 ∧ AnsAt W5 S (.slice a m.length c) x ∧ Blk W5 ab 54 #[.int .i64 x.client, .int .i64 x.seq, .int .i64 x.err, .int .i64 x.rev, .bool x.yes, .slice a m.length c, .string ⟨x.token.toArray⟩]) := Lib.hid ⟨HG.out.1, (H4.out.2.1.trans HF.out.2).trans HG.out.2, (H4.out.2.2.1.step HF.out.2 (by simpa using HBS.out)).step HG.out.2 (by simpa using HBS.out), (H4.out.2.2.2.1.step HF.out.2 (by have := HNE.out.1; simp; omega)).step HG.out.2 (by have := HNE.out.1; simp; omega)⟩
      clear H4 HF HG
      have gc := H6.out.2.2.2.cell
      have g6 := gc 6
      clear gc
      simp only [List.getElem?_nil, List.getElem?_toArray, List.getElem?_cons_zero, List.getElem?_cons_succ] at g6
      have gl := H6.out.2.2.2.lt
      by_cases q3 : x.token = []
      ·have e1 : (x.token == []) = true := by simp [q3]
       have HW : Hid (hearA k x = {k with op := [], ans := x}) := Lib.hid (by rw [hearA, if_pos q3])
       clear q3
       go_wp2_with fail
       refine bodyPost_ret (results_tmp rfl _ _ _) rfl ⟨(.slice a m.length c), by rw [HV.out]; rfl, by rw [HV.out, HW.out]; exact H6.out.1, H6.out.2.1, by rw [HV.out]; exact H6.out.2.2.1⟩
      ·have e1 : (x.token == []) = false := by simp [q3]
       have HW : Hid (hearA k x = {k with op := [], ans := x, tok := x.token}) := Lib.hid (by rw [hearA, if_neg q3])
       clear q3
       have fc := H6.out.1.cell
       have f5 := fc 5
       clear fc
       simp only [ctc, List.getElem?_toArray, List.getElem?_cons_zero, List.getElem?_cons_succ] at f5
       have fl := H6.out.1.lt
       have ff5 := H6.out.1.frozen 5
       go_wp2_with fail
       refine bodyPost_ret (results_tmp rfl _ _ _) rfl ⟨(.slice a m.length c), by rw [HV.out]; rfl, ?_, ?_, ?_⟩
       ·rw [HV.out, HW.out]
        have hq := H6.out.1.set 5 (Str x.token)
        simpa [ctc] using hq
       ·exact H6.out.2.1.trans ((Step.refl [b] _).setCell (.inl (by simp)) _)
       ·rw [HV.out]
        exact H6.out.2.2.1.step ((Step.refl [b] W5).setCell (.inl (by simp)) _) (by simpa using HBS.out)
     ·have q2d : (x.seq == k.seq) = false := by simpa using q2
      have q2e : (x.seq != k.seq) = true := by simpa using q2
      have Q2 := Lib.hid q2
      clear q1 q2
      have HV : Hid (hearC k t = (k, false)) := Lib.hid (hearC_unlike HO.out HR.out HX.out (fun hq => Q2.out hq.2))
      go_wp2_with fail
      go_quiet (fail)
      go_wp2_with fail
      refine bodyPost_ret (results_tmp rfl _ _ _) rfl ⟨s, by rw [HV.out]; rfl, by rw [HV.out]; exact H3.out.1.step ((Step.refl [] V3).drewN _) (by simp), H3.out.2.1.drewN _, by rw [HV.out]; exact H3.out.2.2.1.step ((Step.refl [] V3).drewN _) (by simp)⟩
    ·have q1d : (x.client == k.id) = false := by simpa using q1
     have q1e : (x.client != k.id) = true := by simpa using q1
     have Q1 := Lib.hid q1
     clear q1
     have HV : Hid (hearC k t = (k, false)) := Lib.hid (hearC_unlike HO.out HR.out HX.out (fun hq => Q1.out hq.1))
     go_wp2_with fail
     go_quiet (fail)
     go_wp2_with fail
     refine bodyPost_ret (results_tmp rfl _ _ _) rfl ⟨s, by rw [HV.out]; rfl, by rw [HV.out]; exact H3.out.1.step ((Step.refl [] V3).drewN _) (by simp), H3.out.2.1.drewN _, by rw [HV.out]; exact H3.out.2.2.1.step ((Step.refl [] V3).drewN _) (by simp)⟩
   ·have HV : Hid (hearC k t = (k, false)) := Lib.hid (hearC_none HO.out HR.out hx)
    clear hx
    have e0 : ((3 : Int) != 0) = true := rfl
    go_upto_region 9 with fail
    have k4 := (Step.refl [] w2).alloc (.cells #[.int .i64 0, .int .i64 0, .int .i64 0, .int .i64 0, .bool false, .slice none 0 0, .string ⟨#[]⟩] 54)
    have b4 := Blk.new w2 54 #[.int .i64 0, .int .i64 0, .int .i64 0, .int .i64 0, .bool false, .slice none 0 0, .string ⟨#[]⟩]
    obtain ⟨ab, hab⟩ : ∃ b3, b3 = w2.heap.size := ⟨_, rfl⟩
    obtain ⟨V3, hV3⟩ : ∃ V3, V3 = w2.alloc (.cells #[.int .i64 0, .int .i64 0, .int .i64 0, .int .i64 0, .bool false, .slice none 0 0, .string ⟨#[]⟩] 54) := ⟨_, rfl⟩
    rw [← hV3] at k4 b4 ⊢
    rw [← hab] at b4 ⊢
    have HNE : Hid (b ≠ ab ∧ w.heap.size ≤ ab) := Lib.hid ⟨by have := H2.out.1.lt; omega, by have := H2.out.2.1.size; omega⟩
    clear hab hV3
    have H3 : Hid (Blk V3 b 95 (ctc k s).toArray ∧ Step [b] [b] w V3 ∧ AnsAt V3 S s k.ans ∧ Blk V3 ab 54 #[.int .i64 0, .int .i64 0, .int .i64 0, .int .i64 0, .bool false, .slice none 0 0, .string ⟨#[]⟩]) := Lib.hid ⟨H2.out.1.step k4 (by simp), H2.out.2.1.trans (k4.keep [b]), H2.out.2.2.1.step k4 (by simp), b4⟩
    go_wp2_with fail
    go_quiet (fail)
    go_wp2_with fail
    refine bodyPost_ret (results_tmp rfl _ _ _) rfl ⟨s, by rw [HV.out]; rfl, by rw [HV.out]; exact H3.out.1.step ((Step.refl [] V3).drewN _) (by simp), H3.out.2.1.drewN _, by rw [HV.out]; exact H3.out.2.2.1.step ((Step.refl [] V3).drewN _) (by simp)⟩
end Go.Proofs.Ytjfaplmojpldhaa
