/-
 A client's Token, Target and Answer (which copies the outs), and the law's same of two clients that hold the same. Condition: an answer has at most 2097152 outs and pairs.
-/
import Derived.Test.YtjfaplmojpldhaaZCliGreat
import Derived.Test.YtjfaplmojpldhaaZCliRef
import Derived.Test.YtjfaplmojpldhaaZAnsSame
namespace Go.Proofs.Ytjfaplmojpldhaa
open Go.RowKit
set_option linter.unusedSimpArgs false
set_option linter.unusedVariables false
set_option maxRecDepth 100000

theorem tokenC_any (k : Ct) (s : Value) (b : Nat) (w : World) (h : Blk w b 95 (ctc k s).toArray) : Calls Try.prog 27 #[.pointer (some ⟨b, 0, none⟩)] w fun e w' => e = .returned (Str k.tok) ∧ w = w' := by
 have fc := h.cell
 have f5 := fc 5
 clear fc
 simp only [ctc, List.getElem?_toArray, List.getElem?_cons_zero, List.getElem?_cons_succ] at f5
 have fl := h.lt
 go_enter Try.func27, Try.ntmps27
 go_wp2_with fail
 exact bodyPost_ret (results_tmp rfl _ _ _) rfl ⟨rfl, rfl⟩
theorem targetC_any (k : Ct) (s : Value) (b : Nat) (w : World) (h : Blk w b 95 (ctc k s).toArray) : Calls Try.prog 28 #[.pointer (some ⟨b, 0, none⟩)] w fun e w' => e = .returned (.int .i64 k.target) ∧ w = w' := by
 have fc := h.cell
 have f6 := fc 6
 clear fc
 simp only [ctc, List.getElem?_toArray, List.getElem?_cons_zero, List.getElem?_cons_succ] at f6
 have fl := h.lt
 go_enter Try.func28, Try.ntmps28
 go_wp2_with fail
 exact bodyPost_ret (results_tmp rfl _ _ _) rfl ⟨rfl, rfl⟩
def cloneRP (l : List Pr) (w : World) (e : Ending) (w' : World) : Prop := ∃ a cap, e = .returned (.slice a l.length cap) ∧ Row w' 4 a l.length cap (prcs l) ∧ Step [] (blks a) w w'
set_option maxHeartbeats 1000000 in
theorem cloneR_any (l : List Pr) (a : Option Addr) (cap : Nat) (w : World) (hr : Rd w 4 a l.length (prcs l)) (hl : l.length ≤ 1099511627776) :
  Calls Try.prog 47 #[.slice a l.length cap] w (cloneRP l w) := by
 obtain ⟨i0, hi, hz0, hz1, hz2⟩ := info_parts Try.info_pair
 have HI := Lib.hid (And.intro hi (And.intro hz0 (And.intro hz1 hz2)))
 clear hi hz0 hz1 hz2
 cases a with
 | none =>
  have hn : l = [] := by
   rcases Nat.eq_zero_or_pos l.length with h0 | h0
   ·exact List.eq_nil_of_length_eq_zero h0
   ·obtain ⟨g, off, e⟩ := hr.some_ h0; cases e
  subst hn
  clear hr
  go_enter Try.func47, Try.ntmps47
  have hq := fun W => Lib.run_eql_slice_nil (P := Try.prog) W 111 _ none 0 cap 0 0 Try.underlying111
  simp only [Option.isNone_none] at hq
  go_wp2_with fail
  refine bodyPost_ret (results_tmp rfl _ _ _) rfl ⟨none, 0, rfl, Row.none w 4, Step.refl _ _⟩
 | some ad =>
  have HS : Hid (Src Try.prog (w.alloc (.cells #[] 115)) 4 111 (.slice (some ad) l.length cap) l.length (prcs l)) := Src.rd _ _ Try.underlying111 (hr.alloc _) (prcs_one l)
  have hq := fun W => Lib.run_eql_slice_nil (P := Try.prog) W 111 _ (some ad) l.length cap 0 0 Try.underlying111
  simp only [Option.isNone_some] at hq
  clear hr
  go_enter Try.func47, Try.ntmps47
  go_wp2_with (at_builtin; refine wpList_append_row rfl (.tmp 5) (.tmp 6) 111 111 rfl 115 i0 _ 4 48 Try.underlying111 HI.out.1 HI.out.2.1 HI.out.2.2.1 HI.out.2.2.2 rfl rfl (Row.empty w _ 4) rfl HS.out (by unfold maxLen; omega) (by omega) (by omega) ?_; intro a' c' w1 hr1 hst1)
  rw [Nat.zero_add] at hr1
  have H1 := Lib.hid (And.intro hr1 hst1)
  clear hr1 hst1
  go_wp2_with fail
  refine bodyPost_ret (results_tmp rfl _ _ _) rfl ⟨a', c', by simp, H1.out.1, ?_⟩
  exact (((Step.refl [] w).hold _).trans H1.out.2).drop (by simp)
def cloneOP (l : List Om) (w : World) (e : Ending) (w' : World) : Prop := ∃ a cap, e = .returned (.slice a l.length cap) ∧ Row w' 3 a l.length cap (omcs l) ∧ Step [] (blks a) w w'
set_option maxHeartbeats 1000000 in
theorem cloneO_any (l : List Om) (a : Option Addr) (cap : Nat) (w : World) (hr : Rd w 3 a l.length (omcs l)) (hl : l.length ≤ 1099511627776) :
  Calls Try.prog 46 #[.slice a l.length cap] w (cloneOP l w) := by
 obtain ⟨i0, hi, hz0, hz1, hz2⟩ := info_parts Try.info_out
 have HI := Lib.hid (And.intro hi (And.intro hz0 (And.intro hz1 hz2)))
 clear hi hz0 hz1 hz2
 cases a with
 | none =>
  have hn : l = [] := by
   rcases Nat.eq_zero_or_pos l.length with h0 | h0
   ·exact List.eq_nil_of_length_eq_zero h0
   ·obtain ⟨g, off, e⟩ := hr.some_ h0; cases e
  subst hn
  clear hr
  go_enter Try.func46, Try.ntmps46
  have hq := fun W => Lib.run_eql_slice_nil (P := Try.prog) W 52 _ none 0 cap 0 0 Try.underlying52
  simp only [Option.isNone_none] at hq
  go_wp2_with fail
  refine bodyPost_ret (results_tmp rfl _ _ _) rfl ⟨none, 0, rfl, Row.none w 3, Step.refl _ _⟩
 | some ad =>
  have HS : Hid (Src Try.prog (w.alloc (.cells #[] 113)) 3 52 (.slice (some ad) l.length cap) l.length (omcs l)) := Src.rd _ _ Try.underlying52 (hr.alloc _) (omcs_one l)
  have hq := fun W => Lib.run_eql_slice_nil (P := Try.prog) W 52 _ (some ad) l.length cap 0 0 Try.underlying52
  simp only [Option.isNone_some] at hq
  clear hr
  go_enter Try.func46, Try.ntmps46
  go_wp2_with (at_builtin; refine wpList_append_row rfl (.tmp 5) (.tmp 6) 52 52 rfl 113 i0 _ 3 40 Try.underlying52 HI.out.1 HI.out.2.1 HI.out.2.2.1 HI.out.2.2.2 rfl rfl (Row.empty w _ 3) rfl HS.out (by unfold maxLen; omega) (by omega) (by omega) ?_; intro a' c' w1 hr1 hst1)
  rw [Nat.zero_add] at hr1
  have H1 := Lib.hid (And.intro hr1 hst1)
  clear hr1 hst1
  go_wp2_with fail
  refine bodyPost_ret (results_tmp rfl _ _ _) rfl ⟨a', c', by simp, H1.out.1, ?_⟩
  exact (((Step.refl [] w).hold _).trans H1.out.2).drop (by simp)
theorem omcs_at (l : List Om) (i : Nat) (x : Om) (h : l[i]? = some x) : (omcs l)[i * 3]? = some (.slice x.a x.o.pairs.length x.c) := (fl_at omc 3 omc_len l i x h 0 (by omega)).trans rfl
theorem omcs_set (l : List Om) (i : Nat) (x : Om) (h : l[i]? = some x) (a : Option Addr) (c : Nat) : (omcs l).set (i * 3) (.slice a x.o.pairs.length c) = omcs (l.set i ⟨x.o, a, c⟩) := by
 induction l generalizing i with
 | nil => simp at h
 | cons y l ih =>
  cases i with
  | zero =>
   simp only [List.getElem?_cons_zero, Option.some.injEq] at h
   subst h
   simp [omcs, omc]
  | succ i =>
   simp only [List.getElem?_cons_succ] at h
   have := ih i h
   rw [show (i + 1) * 3 = i * 3 + 1 + 1 + 1 by omega]
   simp only [omcs, List.flatMap_cons, omc, List.cons_append, List.nil_append, List.set_cons_succ] at this ⊢
   rw [this]
def AnswerP (x : An) (w : World) (e : Ending) (w' : World) : Prop := ∃ (m' : List Om) (a' : Option Addr) (c' : Nat), e = .returned (anV x (.slice a' m'.length c')) ∧ m'.map (·.o) = x.outs ∧ RdO w' a' m' ∧ Step [] [] w w'
theorem answer_any (k : Ct) (s : Value) (b : Nat) (S : List Nat) (w : World) (h : Blk w b 95 (ctc k s).toArray) (hA : AnsAt w S s k.ans) (hL : LenA k.ans) : Calls Try.prog 29 #[.pointer (some ⟨b, 0, none⟩)] w (AnswerP k.ans w) := by
 obtain ⟨m, a, c, rfl, hm, hrd, -, -⟩ := hA
 have hml : m.length ≤ 2097152 := by have := congrArg List.length hm; simp at this; have := hL.o; omega
 have hpl : ∀ d ∈ m, d.o.pairs.length ≤ 2097152 := fun d hd => hL.p _ (by rw [← hm]; exact List.mem_map_of_mem hd)
 have H00 : Hid (Blk (w.alloc (.cells anZ7 54)) b 95 (ctc k (.slice a m.length c)).toArray ∧ RdO (w.alloc (.cells anZ7 54)) a m ∧ Blk (w.alloc (.cells anZ7 54)) w.heap.size 54 anZ7 ∧ Step [] [] w (w.alloc (.cells anZ7 54))) := Lib.hid ⟨h.alloc _, hrd.step ((Step.refl [] w).alloc _), Blk.new w _ _, (Step.refl [] w).alloc _⟩
 have HM := Lib.hid (And.intro hm (And.intro hml hpl))
 clear h hrd hm hml hpl hL
 go_enter Try.func29, Try.ntmps29
 go_upto_region 1 with fail
 change Code.wp _ _ _ _ (w.alloc (.cells anZ7 54))
 obtain ⟨rb, hrb⟩ : ∃ b, b = w.heap.size := ⟨_, rfl⟩
 obtain ⟨V, hV⟩ : ∃ V, V = (w.alloc (.cells anZ7 54)) := ⟨_, rfl⟩
 rw [← hV, ← hrb] at H00
 have H0 := H00
 rw [← hV]
 try rw [← hrb]
 have HRB := Lib.hid (show w.heap.size ≤ rb by omega)
 clear hV hrb H00
 have hq0 : (.pointer (some ⟨b, 0, none⟩) : Value) ≠ .pointer none := by simp
 go_upto_region 3 with fail
 have HRM := Lib.hid (range_blk H0.out.1 8 [.int .i64 k.ans.client, .int .i64 k.ans.seq, .int .i64 k.ans.err, .int .i64 k.ans.rev, .bool k.ans.yes, .slice a m.length c, Str k.ans.token] rfl)
 go_upto_region 4 with (refine wpList_load_mid rfl 54 (.tmp 10) rfl b 8 rfl [.int .i64 k.ans.client, .int .i64 k.ans.seq, .int .i64 k.ans.err, .int .i64 k.ans.rev, .bool k.ans.yes, .slice a m.length c, Str k.ans.token] _ HRM.out Try.underlying54 rfl (by kernel_rfl) ?_)
 clear HRM hq0
 obtain ⟨ab, hab⟩ : ∃ b, b = V.heap.size := ⟨_, rfl⟩
 obtain ⟨V1, hV1⟩ : ∃ U, U = V.alloc (.cells (anc k.ans (.slice a m.length c)).toArray 54) := ⟨_, rfl⟩
 have kk : Step [] [] V V1 := by rw [hV1]; exact (Step.refl [] V).alloc _
 have H1 : Hid (Blk V1 ab 54 (anc k.ans (.slice a m.length c)).toArray ∧ RdO V1 a m ∧ Step [] [ab] V V1) := Lib.hid ⟨by rw [hV1, hab]; exact Blk.new V _ _, H0.out.2.1.step kk, by rw [hV1, hab]; exact (Step.refl [] V).hold _⟩
 change Code.wp _ _ _ _ (V.alloc (.cells (anc k.ans (.slice a m.length c)).toArray 54))
 rw [← hV1]
 try rw [← hab]
 have HRO := Lib.hid H0.out.2.1
 have HRR : Hid (Blk V rb 54 anZ7 ∧ Step [] [] w V) := Lib.hid H0.out.2.2
 clear hV1 hab kk H0
 have fc := H1.out.1.cell
 have f5 := fc 5
 clear fc
 simp only [anc, List.getElem?_toArray, List.getElem?_cons_zero, List.getElem?_cons_succ] at f5
 have fl := H1.out.1.lt
 have ff5 := H1.out.1.frozen 5
 go_wp2_with fail
 refine (cloneO_any m a c V1 H1.out.2.1.row (by have := HM.out.2.1; omega)).mono ?_
 rintro e V2 ⟨a2, c2, rfl, hr2, k2⟩
 have H2 : Hid (Blk V2 ab 54 (anc k.ans (.slice a m.length c)).toArray ∧ Row V2 3 a2 m.length c2 (omcs m) ∧ Step [] (ab :: blks a2) V V2 ∧ ab ∉ blks a2) := Lib.hid ⟨H1.out.1.step k2 (by simp), hr2, H1.out.2.2.trans (show Step [ab] (ab :: blks a2) V1 V2 from k2.frame [ab]), k2.notin H1.out.1.lt (by simp)⟩
 have HV2 := Lib.hid (show V.heap.size ≤ V2.heap.size from H2.out.2.2.1.size)
 have HLT := Lib.hid (show ∀ g ∈ blks a2, g < V2.heap.size from H2.out.2.1.lt)
 have HRF : Hid (∀ g ∈ blks a2, V.heap.size ≤ g) := Lib.hid (fun g hg => by rcases H2.out.2.2.1.fresh g (List.mem_cons_of_mem _ hg) with h | h; (simp at h); exact h)
 clear hr2 k2 H1 f5 fl ff5
 have fc := H2.out.1.cell
 have f5 := fc 5
 clear fc
 simp only [anc, List.getElem?_toArray, List.getElem?_cons_zero, List.getElem?_cons_succ] at f5
 have fl := H2.out.1.lt
 have ff5 := H2.out.1.frozen 5
 go_upto_region 5 with fail
 obtain ⟨V3, hV3⟩ : ∃ U, U = V2.setCell ⟨ab, 5, none⟩ (.slice a2 m.length c2) := ⟨_, rfl⟩
 have H3 : Hid (Blk V3 ab 54 (anc k.ans (.slice a2 m.length c2)).toArray ∧ Row V3 3 a2 m.length c2 (omcs m) ∧ (∃ m1 : List Om, m = m1 ++ m.drop 0 ∧ m1.length = 0 ∧ m1.map (·.o) = (m.take 0).map (·.o) ∧ ∀ x ∈ m1, Rd V3 4 x.a x.o.pairs.length (prcs x.o.pairs) ∧ ∀ g ∈ blks x.a, V2.heap.size ≤ g) ∧ Step [] (ab :: blks a2) V V3 ∧ V2.heap.size ≤ V3.heap.size) := Lib.hid (by rw [hV3]; refine ⟨?_, H2.out.2.1.step ((Step.refl [ab] V2).setCell (.inl (by simp)) _) (fun g hg hm => by simp at hm; subst hm; exact H2.out.2.2.2 hg), ⟨[], by simp, rfl, rfl, by simp⟩, H2.out.2.2.1.setCell (.inl (by simp)) _, ((Step.refl [ab] V2).setCell (.inl (by simp)) _).size⟩; have hq := H2.out.1.set 5 (.slice a2 m.length c2); simpa [anc] using hq)
 rw [← hV3]
 have HNA := Lib.hid H2.out.2.2.2
 clear hV3 H2 f5 fl ff5
 have fc := H3.out.1.cell
 have f5 := fc 5
 clear fc
 simp only [anc, List.getElem?_toArray, List.getElem?_cons_zero, List.getElem?_cons_succ] at f5
 have fl := H3.out.1.lt
 have hml := HM.out.2.1
 go_wp2_with fail
 clear f5 fl
 go_loopw [19] (fun v W => ∃ (i : Nat) (L : List Om), i ≤ m.length ∧ v = .int .i64 i ∧ Hid (Blk W ab 54 (anc k.ans (.slice a2 m.length c2)).toArray ∧ Row W 3 a2 m.length c2 (omcs L) ∧ (∃ m1 : List Om, L = m1 ++ m.drop i ∧ m1.length = i ∧ m1.map (·.o) = (m.take i).map (·.o) ∧ ∀ x ∈ m1, Rd W 4 x.a x.o.pairs.length (prcs x.o.pairs) ∧ ∀ g ∈ blks x.a, V2.heap.size ≤ g) ∧ Step [] (ab :: blks a2) V W ∧ V2.heap.size ≤ W.heap.size)) (fun v _ => m.length - (intOf v).toNat)
 case atStart => exact ⟨0, m, by omega, rfl, H3⟩
 case round =>
  clear H3
  rename World => W
  obtain ⟨i, L, hi, rfl, HW⟩ := hrel
  by_cases hlt : i < m.length
  ·have hlt' : (i : Int) < m.length := by omega
   obtain ⟨x, hx⟩ : ∃ x, m[i]? = some x := ⟨_, List.getElem?_eq_getElem hlt⟩
   have hLx : L[i]? = some x := by obtain ⟨m1, h1, h2, -⟩ := HW.out.2.2.1; rw [h1, List.getElem?_append_right (by omega), h2, Nat.sub_self, List.getElem?_drop]; simpa using hx
   have HRX : Hid (Rd V 4 x.a x.o.pairs.length (prcs x.o.pairs)) := Lib.hid (HRO.out.prs x (List.mem_of_getElem? hx))
   have HPX := Lib.hid (HM.out.2.2 x (List.mem_of_getElem? hx))
   obtain ⟨g, off, rfl⟩ := HW.out.2.1.some_of_pos (by omega)
   have HLX := Lib.hid hLx
   clear hLx hx
   go_upto_region 8 with fail
   have HD : Hid (Blk W.drew ab 54 (anc k.ans (.slice (some ⟨g, off, none⟩) m.length c2)).toArray ∧ Row W.drew 3 (some ⟨g, off, none⟩) m.length c2 (omcs L)) := Lib.hid ⟨HW.out.1.drew, HW.out.2.1.drew⟩
   refine wp_region_held_drew (S := fun V => Hid (Blk V ab 54 (anc k.ans (.slice (some ⟨g, off, none⟩) m.length c2)).toArray)) (by kernel_rfl) (Lib.hid HD.out.1) (fun hHeld => ?_)
   refine wpAnyH_take (i := 0) (v := ?_) rfl (by kernel_rfl) (by kernel_rfl) (by kernel_rfl) (fun _ _ _ h => h) (Or.inl ⟨by rfl, ?_⟩) hHeld ?_
   rotate_left
   ·intro w hSw1
    try dsimp only at hSw1
    go_simp
    try (with_reducible rfl)
   try simp only [Act.put, LsA, LsB, LsC, LsD, LsE, LsF]
   refine wpAnyH_take (i := 1) (v := ?_) rfl (by kernel_rfl) (by kernel_rfl) (by kernel_rfl) (fun _ _ _ h => h) (Or.inl ⟨by rfl, ?_⟩) hHeld ?_
   rotate_left
   ·intro w hSw1
    have t5 := hSw1.out.cell 5
    simp only [anc, List.getElem?_toArray, List.getElem?_cons_zero, List.getElem?_cons_succ] at t5
    have tl := hSw1.out.lt
    go_simp
    try (with_reducible rfl)
   try simp only [Act.put, LsA, LsB, LsC, LsD, LsE, LsF]
   refine wpAnyH_take (i := 2) (v := ?_) rfl (by kernel_rfl) (by kernel_rfl) (by kernel_rfl) (fun _ _ _ h => h) (Or.inl ⟨by rfl, ?_⟩) hHeld ?_
   rotate_left
   ·intro w hSw1
    try dsimp only at hSw1
    go_simp
    try (with_reducible rfl)
   try simp only [Act.put, LsA, LsB, LsC, LsD, LsE, LsF]
   refine wpAnyH_take (i := 3) (v := ?_) rfl (by kernel_rfl) (by kernel_rfl) (by kernel_rfl) (fun _ _ _ h => h) (Or.inl ⟨by rfl, ?_⟩) hHeld ?_
   rotate_left
   ·intro w hSw1
    try dsimp only at hSw1
    go_simp
    try (with_reducible rfl)
   try simp only [Act.put, LsA, LsB, LsC, LsD, LsE, LsF]
   refine wpAnyH_take (i := 4) (v := ?_) rfl (by kernel_rfl) (by kernel_rfl) (by kernel_rfl) (fun _ _ _ h => h) (Or.inl ⟨by rfl, ?_⟩) hHeld ?_
   rotate_left
   ·intro w hSw1
    have t5 := hSw1.out.cell 5
    simp only [anc, List.getElem?_toArray, List.getElem?_cons_zero, List.getElem?_cons_succ] at t5
    have tl := hSw1.out.lt
    go_simp
    try (with_reducible rfl)
   try simp only [Act.put, LsA, LsB, LsC, LsD, LsE, LsF]
   refine wpAnyH_take (i := 5) (v := ?_) rfl (by kernel_rfl) (by kernel_rfl) (by kernel_rfl) (fun _ _ _ h => h) (Or.inl ⟨by rfl, ?_⟩) hHeld ?_
   rotate_left
   ·intro w hSw1
    try dsimp only at hSw1
    go_simp
    try (with_reducible rfl)
   try simp only [Act.put, LsA, LsB, LsC, LsD, LsE, LsF]
   refine wpAnyH_take (i := 6) (v := ?_) rfl (by kernel_rfl) (by kernel_rfl) (by kernel_rfl) (fun _ _ _ h => h) (Or.inl ⟨by rfl, ?_⟩) hHeld ?_
   rotate_left
   ·intro w hSw1
    try dsimp only at hSw1
    go_simp
    try (with_reducible rfl)
   try simp only [Act.put, LsA, LsB, LsC, LsD, LsE, LsF]
   refine wpAnyH_take (i := 7) (v := ?_) rfl (by kernel_rfl) (by kernel_rfl) (by kernel_rfl) (fun _ _ _ h => h) (Or.inl ⟨by rfl, ?_⟩) hHeld ?_
   rotate_left
   ·intro w hSw1
    try dsimp only at hSw1
    go_simp
    try (with_reducible rfl)
   try simp only [Act.put, LsA, LsB, LsC, LsD, LsE, LsF]
   refine wpAnyH_ready (rs := [8]) (by kernel_rfl) (by simp) ?_
   refine AllReadyH.cons rfl (fun K hK => ?_) AllReadyH.nil
   have zq := HD.out.2.cell rfl (i * 3) (by omega); have zc := zq.1.trans (omcs_at L i x HLX.out); have zl := HD.out.2.lt g (by simp [blks]); clear zq; go_simp; go_wp2_with fail; clear zc zl
   refine hK.out _ _ (hHeld) (fun hHeld2 => ?_)
   clear hK K hHeld
   try simp only [Act.put, LsA, LsB, LsC, LsD, LsE, LsF]
   refine wpAnyH_ready (rs := [9]) (by kernel_rfl) (by simp) ?_
   refine AllReadyH.cons rfl (fun K hK => ?_) AllReadyH.nil
   go_simp
   refine (cloneR_any x.o.pairs x.a x.c W.drew ((HRX.out.step0 HW.out.2.2.2.1).drew) (by have := HPX.out; omega)).mono ?_; rintro e W9 ⟨a9, c9, rfl, hr9, k9⟩; have H9 : Hid (Row W9 4 a9 x.o.pairs.length c9 (prcs x.o.pairs) ∧ Step [] (blks a9) W W9) := Lib.hid ⟨hr9, (Step.refl [] W).drew.trans k9⟩; clear hr9 k9
   go_wp2_with fail
   refine hK.out _ _ (Lib.hid (HW.out.1.step H9.out.2 (by simp))) (fun hHeld3 => ?_)
   clear hK K hHeld2
   try simp only [Act.put, LsA, LsB, LsC, LsD, LsE, LsF]
   refine wpAnyH_take (i := 10) (v := ?_) rfl (by kernel_rfl) (by kernel_rfl) (by kernel_rfl) (fun _ _ _ h => h) (Or.inl ⟨by rfl, ?_⟩) hHeld3 ?_
   rotate_left
   ·intro w hSw1
    try dsimp only at hSw1
    go_simp
    try (with_reducible rfl)
   try simp only [Act.put, LsA, LsB, LsC, LsD, LsE, LsF]
   refine wpAnyH_take (i := 11) (v := ?_) rfl (by kernel_rfl) (by kernel_rfl) (by kernel_rfl) (fun _ _ _ h => h) (Or.inl ⟨by rfl, ?_⟩) hHeld3 ?_
   rotate_left
   ·intro w hSw1
    try dsimp only at hSw1
    go_simp
    try (with_reducible rfl)
   try simp only [Act.put, LsA, LsB, LsC, LsD, LsE, LsF]
   refine wpAnyH_ready (rs := [12]) (by kernel_rfl) (by simp) ?_
   refine AllReadyH.cons rfl (fun K hK => ?_) AllReadyH.nil
   have zr := HW.out.2.1.step H9.out.2 (by simp); have zq := zr.cell rfl (i * 3) (by omega); have zc := zq.1.trans (omcs_at L i x HLX.out); have zf := zq.2.1; have zl := zr.lt g (by simp [blks]); clear zq zr; go_simp; go_wp2_with fail; clear zc zf zl
   refine hK.out _ _ (Lib.hid ((HW.out.1.step H9.out.2 (by simp)).far (p := ⟨g, off + i * 3, none⟩) (by have := HNA.out; simp [blks] at this; exact this) _)) (fun hHeld4 => ?_)
   clear hK K hHeld3
   try simp only [Act.put, LsA, LsB, LsC, LsD, LsE, LsF]
   refine wpAnyH_done (by kernel_rfl) ?_ _
   obtain ⟨U, hU⟩ : ∃ U, U = W9.setCell ⟨g, off + i * 3, none⟩ (.slice a9 x.o.pairs.length c9) := ⟨_, rfl⟩
   have sg : Step [g] [g] W9 U := by rw [hU]; exact (Step.refl [g] W9).setCell (.inl (by simp)) _
   have H10 : Hid (Blk U ab 54 (anc k.ans (.slice (some ⟨g, off, none⟩) m.length c2)).toArray ∧ Row U 3 (some ⟨g, off, none⟩) m.length c2 (omcs (L.set i ⟨x.o, a9, c9⟩)) ∧ (∃ m1 : List Om, (L.set i ⟨x.o, a9, c9⟩) = m1 ++ m.drop (i + 1) ∧ m1.length = (i + 1) ∧ m1.map (·.o) = (m.take (i + 1)).map (·.o) ∧ ∀ x ∈ m1, Rd U 4 x.a x.o.pairs.length (prcs x.o.pairs) ∧ ∀ g ∈ blks x.a, V2.heap.size ≤ g) ∧ Step [] (ab :: blks (some ⟨g, off, none⟩)) V U ∧ V2.heap.size ≤ U.heap.size) := Lib.hid (by
    have hgl : g < V2.heap.size := HLT.out g (by simp [blks])
    have hgm : ab ≠ g := by have := HNA.out; simp [blks] at this; exact this
    refine ⟨by rw [hU]; exact (HW.out.1.step H9.out.2 (by simp)).far (p := ⟨g, off + i * 3, none⟩) hgm _, ?_, ?_, ?_, Nat.le_trans HW.out.2.2.2.2 (Nat.le_trans H9.out.2.size sg.size)⟩
    ·have hq := (HW.out.2.1.step H9.out.2 (by simp)).set rfl (i * 3) (by omega) (.slice a9 x.o.pairs.length c9)
     rw [omcs_set L i x HLX.out, ← hU] at hq
     exact hq
    ·obtain ⟨m1, h1, h2, h3, h4⟩ := HW.out.2.2.1
     have hd : m.drop i = x :: m.drop (i + 1) := by
      have h0 := HLX.out
      rw [h1, List.getElem?_append_right (by omega), h2, Nat.sub_self] at h0
      cases hdd : m.drop i with
      | nil => rw [hdd] at h0; simp at h0
      | cons y r =>
       rw [hdd] at h0
       simp at h0
       have : m.drop (i + 1) = r := by have := congrArg (List.drop 1) hdd; rw [List.drop_drop] at this; simpa using this
       rw [h0, this]
     refine ⟨m1 ++ [⟨x.o, a9, c9⟩], ?_, by simp [h2], ?_, ?_⟩
     ·rw [h1, hd, ← h2]
      simp
     ·have ht : m.take (i + 1) = m.take i ++ [x] := by
       have e := List.take_append_drop i m
       have h5 : m[i]? = some x := by have h0 := HLX.out; rw [h1, List.getElem?_append_right (by omega), h2, Nat.sub_self, List.getElem?_drop] at h0; simpa using h0
       rw [List.take_add_one, h5]
       rfl
      rw [ht, List.map_append, List.map_append, h3]
      rfl
     ·intro y hy
      rcases List.mem_append.1 hy with hy | hy
      ·obtain ⟨q1, q2⟩ := h4 y hy
       exact ⟨(q1.step0 H9.out.2).step sg (fun z hz hm => by simp at hm; have := q2 z hz; omega), q2⟩
      ·rw [List.mem_singleton.1 hy]
       have hn : ∀ z ∈ blks a9, V2.heap.size ≤ z := fun z hz => by rcases H9.out.2.fresh z hz with h | h; (simp at h); exact Nat.le_trans HW.out.2.2.2.2 h
       exact ⟨H9.out.1.rd.step sg (fun z hz hm => by simp at hm; have := hn z hz; omega), hn⟩
    ·rw [hU]
     exact ((HW.out.2.2.2.1.trans ((H9.out.2.drop (S'' := []) (by simp)).keep _)).setCell (.inl (by simp [blks])) _))
   rw [← hU]
   clear hU sg HW H9 HD
   go_wp2_with fail
   go_roundw
   case rel => exact ⟨i + 1, L.set i ⟨x.o, a9, c9⟩, by omega, by go_num, H10⟩
   case measure => simp [intOf]; omega
  ·obtain rfl : i = m.length := by omega
   obtain ⟨m1, h1, h2, h3, h4⟩ := HW.out.2.2.1
   rw [List.drop_length, List.append_nil] at h1
   subst h1
   rw [List.take_length] at h3
   have HE := Lib.hid (And.intro h2 (And.intro h3 h4))
   clear h2 h3 h4
   have hnl : ¬ (m.length : Int) < m.length := by omega
   have HRZ : Hid (Blk W rb 54 anZ7 ∧ rb < V.heap.size) := Lib.hid ⟨HRR.out.1.step HW.out.2.2.2.1 (by simp), HRR.out.1.lt⟩
   go_wp2_with (first | (refine wpList_loadRow (T := 54) (b := ab) (T' := 54) (cs := (anc k.ans (.slice a2 m.length c2)).toArray) rfl (.tmp 3) rfl rfl Try.sAns HW.out.1 ?_) | (refine wpList_storeRow (T := 54) (b := rb) (T' := 54) (cs := anZ7) (vs := (anc k.ans (.slice a2 m.length c2)).toArray) rfl (.tmp 2) (.tmp 35) rfl rfl rfl Try.sAns HRZ.out.1 rfl (anc_one _ _ rfl) ?_; intro U ub uk))
   refine bodyPost_ret (res_row (T := 54) (cs := (anc k.ans (.slice a2 m.length c2)).toArray) (p := 2) rfl _ rfl Try.sAns ub) rfl ⟨L, a2, c2, by rw [HE.out.1]; rfl, by rw [HE.out.2.1]; exact HM.out.1, ⟨?_, ?_⟩, ?_⟩
   ·rw [HE.out.1]
    exact HW.out.2.1.rd.step uk (fun z hz hm => by simp at hm; subst hm; have := HRF.out z hz; have := HRZ.out.2; omega)
   ·intro y hy
    obtain ⟨q1, q2⟩ := HE.out.2.2 y hy
    exact q1.step uk (fun z hz hm => by simp at hm; have := q2 z hz; have := HRZ.out.2; have := HV2.out; omega)
   ·exact ((HRR.out.2.trans (HW.out.2.2.2.1.drop (by simp))).trans (Step.refl [] W)).own uk HRB.out
set_option maxHeartbeats 8000000 in
theorem same24_any (k : Ct) (s t : Value) (b rb : Nat) (S : List Nat) (w : World) (h1 : Blk w b 95 (ctc k s).toArray) (h2 : Blk w rb 71 (rtc k t).toArray) (hA : AnsAt w S s k.ans) (hT : AnsAt w S t k.ans) (hL : LenA k.ans) : Calls Try.prog 26 #[.pointer (some ⟨b, 0, none⟩), .pointer (some ⟨rb, 0, none⟩)] w fun e w' => e = .returned (.bool true) ∧ Step [] [] w w' := by
 obtain ⟨m2, a2, c2, rfl, hm2, hr2, -, -⟩ := hT
 have HR2 := Lib.hid (And.intro hm2 hr2)
 have H0 := Lib.hid (And.intro h1 (And.intro h2 hA))
 have HL := Lib.hid hL
 clear h1 h2 hA hm2 hr2 hL
 go_enter Try.func26, Try.ntmps26
 go_upto_region 2 with (refine (openC_any k s b w H0.out.1).mono ?_; rintro e w1 ⟨rfl, k1⟩)
 have H1 : Hid (Blk w1.drew b 95 (ctc k s).toArray ∧ Blk w1.drew rb 71 (rtc k (.slice a2 m2.length c2)).toArray ∧ AnsAt w1.drew S s k.ans ∧ RdO w1.drew a2 m2 ∧ Step [] [] w w1.drew) := Lib.hid ⟨(H0.out.1.step k1 (by simp)).drew, (H0.out.2.1.step k1 (by simp)).drew, H0.out.2.2.step k1.drew (by simp), HR2.out.2.step k1.drew, k1.drew⟩
 clear k1 H0
 refine wp_region_held_drew (S := fun W => Hid (Blk W rb 71 (rtc k (.slice a2 m2.length c2)).toArray ∧ True)) (by kernel_rfl) (Lib.hid ⟨H1.out.2.1, trivial⟩) (fun hHeld => ?_)
 refine wpAnyH_take (i := 0) (v := ?_) rfl (by kernel_rfl) (by kernel_rfl) (by kernel_rfl) (fun _ _ _ h => h) (Or.inl ⟨by rfl, ?_⟩) hHeld ?_
 rotate_left
 ·intro w hSw1
  try dsimp only at hSw1
  go_simp
  try (with_reducible rfl)
 try simp only [Act.put, LsA, LsB, LsC, LsD, LsE, LsF]
 refine wpAnyH_take (i := 1) (v := ?_) rfl (by kernel_rfl) (by kernel_rfl) (by kernel_rfl) (fun _ _ _ h => h) (Or.inl ⟨by rfl, ?_⟩) hHeld ?_
 rotate_left
 ·intro w hSw1
  try dsimp only at hSw1
  go_simp
  try (with_reducible rfl)
 try simp only [Act.put, LsA, LsB, LsC, LsD, LsE, LsF]
 refine wpAnyH_take (i := 2) (v := ?_) rfl (by kernel_rfl) (by kernel_rfl) (by kernel_rfl) (fun _ _ _ h => h) (Or.inl ⟨by rfl, ?_⟩) hHeld ?_
 rotate_left
 ·intro w hSw1
  try dsimp only at hSw1
  go_simp
  try (with_reducible rfl)
 try simp only [Act.put, LsA, LsB, LsC, LsD, LsE, LsF]
 refine wpAnyH_take (i := 3) (v := ?_) rfl (by kernel_rfl) (by kernel_rfl) (by kernel_rfl) (fun _ _ _ h => h) (Or.inl ⟨by rfl, ?_⟩) hHeld ?_
 rotate_left
 ·intro w hSw1
  try dsimp only at hSw1
  go_simp
  try (with_reducible rfl)
 try simp only [Act.put, LsA, LsB, LsC, LsD, LsE, LsF]
 refine wpAnyH_take (i := 4) (v := ?_) rfl (by kernel_rfl) (by kernel_rfl) (by kernel_rfl) (fun _ _ _ h => h) (Or.inl ⟨by rfl, ?_⟩) hHeld ?_
 rotate_left
 ·intro w hSw1
  have tc := hSw1.out.1.cell
  have t5 := tc 5
  clear tc
  simp only [rtc, rtb, List.getElem?_toArray, List.getElem?_cons_zero, List.getElem?_cons_succ] at t5
  have tl := hSw1.out.1.lt
  go_simp
  try (with_reducible rfl)
 try simp only [Act.put, LsA, LsB, LsC, LsD, LsE, LsF]
 refine wpAnyH_take (i := 5) (v := ?_) rfl (by kernel_rfl) (by kernel_rfl) (by kernel_rfl) (fun _ _ _ h => h) (Or.inl ⟨by rfl, ?_⟩) hHeld ?_
 rotate_left
 ·intro w hSw1
  try dsimp only at hSw1
  go_simp
  try (with_reducible rfl)
 try simp only [Act.put, LsA, LsB, LsC, LsD, LsE, LsF]
 refine wpAnyH_take (i := 6) (v := ?_) rfl (by kernel_rfl) (by kernel_rfl) (by kernel_rfl) (fun _ _ _ h => h) (Or.inl ⟨by rfl, ?_⟩) hHeld ?_
 rotate_left
 ·intro w hSw1
  try dsimp only at hSw1
  go_simp
  try (with_reducible rfl)
 try simp only [Act.put, LsA, LsB, LsC, LsD, LsE, LsF]
 refine wpAnyH_take (i := 7) (v := ?_) rfl (by kernel_rfl) (by kernel_rfl) (by kernel_rfl) (fun _ _ _ h => h) (Or.inl ⟨by rfl, ?_⟩) hHeld ?_
 rotate_left
 ·intro w hSw1
  try dsimp only at hSw1
  go_simp
  try (with_reducible rfl)
 try simp only [Act.put, LsA, LsB, LsC, LsD, LsE, LsF]
 refine wpAnyH_take (i := 8) (v := ?_) rfl (by kernel_rfl) (by kernel_rfl) (by kernel_rfl) (fun _ _ _ h => h) (Or.inl ⟨by rfl, ?_⟩) hHeld ?_
 rotate_left
 ·intro w hSw1
  try dsimp only at hSw1
  go_simp
  try (with_reducible rfl)
 try simp only [Act.put, LsA, LsB, LsC, LsD, LsE, LsF]
 refine wpAnyH_take (i := 9) (v := ?_) rfl (by kernel_rfl) (by kernel_rfl) (by kernel_rfl) (fun _ _ _ h => h) (Or.inl ⟨by rfl, ?_⟩) hHeld ?_
 rotate_left
 ·intro w hSw1
  try dsimp only at hSw1
  go_simp
  try (with_reducible rfl)
 try simp only [Act.put, LsA, LsB, LsC, LsD, LsE, LsF]
 refine wpAnyH_take (i := 10) (v := ?_) rfl (by kernel_rfl) (by kernel_rfl) (by kernel_rfl) (fun _ _ _ h => h) (Or.inl ⟨by rfl, ?_⟩) hHeld ?_
 rotate_left
 ·intro w hSw1
  try dsimp only at hSw1
  go_simp
  try (with_reducible rfl)
 try simp only [Act.put, LsA, LsB, LsC, LsD, LsE, LsF]
 refine wpAnyH_take (i := 11) (v := ?_) rfl (by kernel_rfl) (by kernel_rfl) (by kernel_rfl) (fun _ _ _ h => h) (Or.inl ⟨by rfl, ?_⟩) hHeld ?_
 rotate_left
 ·intro w hSw1
  have tc := hSw1.out.1.cell
  have t4 := tc 4
  clear tc
  simp only [rtc, rtb, List.getElem?_toArray, List.getElem?_cons_zero, List.getElem?_cons_succ] at t4
  have tl := hSw1.out.1.lt
  go_simp
  try (with_reducible rfl)
 try simp only [Act.put, LsA, LsB, LsC, LsD, LsE, LsF]
 refine wpAnyH_take (i := 12) (v := ?_) rfl (by kernel_rfl) (by kernel_rfl) (by kernel_rfl) (fun _ _ _ h => h) (Or.inl ⟨by rfl, ?_⟩) hHeld ?_
 rotate_left
 ·intro w hSw1
  try dsimp only at hSw1
  go_simp
  try (with_reducible rfl)
 try simp only [Act.put, LsA, LsB, LsC, LsD, LsE, LsF]
 refine wpAnyH_take (i := 13) (v := ?_) rfl (by kernel_rfl) (by kernel_rfl) (by kernel_rfl) (fun _ _ _ h => h) (Or.inl ⟨by rfl, ?_⟩) hHeld ?_
 rotate_left
 ·intro w hSw1
  try dsimp only at hSw1
  go_simp
  try (with_reducible rfl)
 try simp only [Act.put, LsA, LsB, LsC, LsD, LsE, LsF]
 refine wpAnyH_take (i := 14) (v := ?_) rfl (by kernel_rfl) (by kernel_rfl) (by kernel_rfl) (fun _ _ _ h => h) (Or.inl ⟨by rfl, ?_⟩) hHeld ?_
 rotate_left
 ·intro w hSw1
  try dsimp only at hSw1
  go_simp
  try (with_reducible rfl)
 try simp only [Act.put, LsA, LsB, LsC, LsD, LsE, LsF]
 refine wpAnyH_take (i := 15) (v := ?_) rfl (by kernel_rfl) (by kernel_rfl) (by kernel_rfl) (fun _ _ _ h => h) (Or.inl ⟨by rfl, ?_⟩) hHeld ?_
 rotate_left
 ·intro w hSw1
  try dsimp only at hSw1
  go_simp
  try (with_reducible rfl)
 try simp only [Act.put, LsA, LsB, LsC, LsD, LsE, LsF]
 refine wpAnyH_take (i := 17) (v := ?_) rfl (by kernel_rfl) (by kernel_rfl) (by kernel_rfl) (fun _ _ _ h => h) (Or.inl ⟨by rfl, ?_⟩) hHeld ?_
 rotate_left
 ·intro w hSw1
  try dsimp only at hSw1
  go_simp
  try (with_reducible rfl)
 try simp only [Act.put, LsA, LsB, LsC, LsD, LsE, LsF]
 refine wpAnyH_take (i := 18) (v := ?_) rfl (by kernel_rfl) (by kernel_rfl) (by kernel_rfl) (fun _ _ _ h => h) (Or.inl ⟨by rfl, ?_⟩) hHeld ?_
 rotate_left
 ·intro w hSw1
  try dsimp only at hSw1
  go_simp
  try (with_reducible rfl)
 try simp only [Act.put, LsA, LsB, LsC, LsD, LsE, LsF]
 refine wpAnyH_take (i := 19) (v := ?_) rfl (by kernel_rfl) (by kernel_rfl) (by kernel_rfl) (fun _ _ _ h => h) (Or.inl ⟨by rfl, ?_⟩) hHeld ?_
 rotate_left
 ·intro w hSw1
  try dsimp only at hSw1
  go_simp
  try (with_reducible rfl)
 try simp only [Act.put, LsA, LsB, LsC, LsD, LsE, LsF]
 refine wpAnyH_take (i := 20) (v := ?_) rfl (by kernel_rfl) (by kernel_rfl) (by kernel_rfl) (fun _ _ _ h => h) (Or.inl ⟨by rfl, ?_⟩) hHeld ?_
 rotate_left
 ·intro w hSw1
  have tc := hSw1.out.1.cell
  have t3 := tc 3
  clear tc
  simp only [rtc, rtb, List.getElem?_toArray, List.getElem?_cons_zero, List.getElem?_cons_succ] at t3
  have tl := hSw1.out.1.lt
  go_simp
  try (with_reducible rfl)
 try simp only [Act.put, LsA, LsB, LsC, LsD, LsE, LsF]
 refine wpAnyH_ready (rs := [16]) (by kernel_rfl) (by simp) ?_
 refine AllReadyH.cons rfl (fun K hK => ?_) AllReadyH.nil
 go_simp
 refine (seqC_any k s b _ H1.out.1).mono ?_; rintro e Wq ⟨rfl, rfl⟩
 go_wp2_with fail
 refine hK.out _ _ (Lib.hid ⟨H1.out.2.1, trivial⟩) (fun hHeld2 => ?_)
 clear hK K hHeld
 try simp only [Act.put, LsA, LsB, LsC, LsD, LsE, LsF]
 refine wpAnyH_take (i := 21) (v := ?_) rfl (by kernel_rfl) (by kernel_rfl) (by kernel_rfl) (fun _ _ _ h => h) (Or.inl ⟨by rfl, ?_⟩) hHeld2 ?_
 rotate_left
 ·intro w hSw1
  try dsimp only at hSw1
  go_simp
  try (with_reducible rfl)
 try simp only [Act.put, LsA, LsB, LsC, LsD, LsE, LsF]
 refine wpAnyH_take (i := 22) (v := ?_) rfl (by kernel_rfl) (by kernel_rfl) (by kernel_rfl) (fun _ _ _ h => h) (Or.inl ⟨by rfl, ?_⟩) hHeld2 ?_
 rotate_left
 ·intro w hSw1
  try dsimp only at hSw1
  go_simp
  try (with_reducible rfl)
 try simp only [Act.put, LsA, LsB, LsC, LsD, LsE, LsF]
 refine wpAnyH_take (i := 23) (v := ?_) rfl (by kernel_rfl) (by kernel_rfl) (by kernel_rfl) (fun _ _ _ h => h) (Or.inl ⟨by rfl, ?_⟩) hHeld2 ?_
 rotate_left
 ·intro w hSw1
  try dsimp only at hSw1
  go_simp
  try (with_reducible rfl)
 try simp only [Act.put, LsA, LsB, LsC, LsD, LsE, LsF]
 refine wpAnyH_take (i := 24) (v := ?_) rfl (by kernel_rfl) (by kernel_rfl) (by kernel_rfl) (fun _ _ _ h => h) (Or.inl ⟨by rfl, ?_⟩) hHeld2 ?_
 rotate_left
 ·intro w hSw1
  try dsimp only at hSw1
  go_simp
  try (with_reducible rfl)
 try simp only [Act.put, LsA, LsB, LsC, LsD, LsE, LsF]
 refine wpAnyH_take (i := 26) (v := ?_) rfl (by kernel_rfl) (by kernel_rfl) (by kernel_rfl) (fun _ _ _ h => h) (Or.inl ⟨by rfl, ?_⟩) hHeld2 ?_
 rotate_left
 ·intro w hSw1
  try dsimp only at hSw1
  go_simp
  try (with_reducible rfl)
 try simp only [Act.put, LsA, LsB, LsC, LsD, LsE, LsF]
 refine wpAnyH_take (i := 27) (v := ?_) rfl (by kernel_rfl) (by kernel_rfl) (by kernel_rfl) (fun _ _ _ h => h) (Or.inl ⟨by rfl, ?_⟩) hHeld2 ?_
 rotate_left
 ·intro w hSw1
  try dsimp only at hSw1
  go_simp
  try (with_reducible rfl)
 try simp only [Act.put, LsA, LsB, LsC, LsD, LsE, LsF]
 refine wpAnyH_take (i := 28) (v := ?_) rfl (by kernel_rfl) (by kernel_rfl) (by kernel_rfl) (fun _ _ _ h => h) (Or.inl ⟨by rfl, ?_⟩) hHeld2 ?_
 rotate_left
 ·intro w hSw1
  try dsimp only at hSw1
  go_simp
  try (with_reducible rfl)
 try simp only [Act.put, LsA, LsB, LsC, LsD, LsE, LsF]
 refine wpAnyH_take (i := 29) (v := ?_) rfl (by kernel_rfl) (by kernel_rfl) (by kernel_rfl) (fun _ _ _ h => h) (Or.inl ⟨by rfl, ?_⟩) hHeld2 ?_
 rotate_left
 ·intro w hSw1
  have tc := hSw1.out.1.cell
  have t6 := tc 6
  clear tc
  simp only [rtc, rtb, List.getElem?_toArray, List.getElem?_cons_zero, List.getElem?_cons_succ] at t6
  have tl := hSw1.out.1.lt
  go_simp
  try (with_reducible rfl)
 try simp only [Act.put, LsA, LsB, LsC, LsD, LsE, LsF]
 refine wpAnyH_ready (rs := [25]) (by kernel_rfl) (by simp) ?_
 refine AllReadyH.cons rfl (fun K hK => ?_) AllReadyH.nil
 go_simp
 refine (tokenC_any k s b _ H1.out.1).mono ?_; rintro e Wq ⟨rfl, rfl⟩
 go_wp2_with fail
 refine hK.out _ _ (Lib.hid ⟨H1.out.2.1, trivial⟩) (fun hHeld3 => ?_)
 clear hK K hHeld2
 try simp only [Act.put, LsA, LsB, LsC, LsD, LsE, LsF]
 refine wpAnyH_take (i := 30) (v := ?_) rfl (by kernel_rfl) (by kernel_rfl) (by kernel_rfl) (fun _ _ _ h => h) (Or.inl ⟨by rfl, ?_⟩) hHeld3 ?_
 rotate_left
 ·intro w hSw1
  try dsimp only at hSw1
  go_simp
  try (with_reducible rfl)
 try simp only [Act.put, LsA, LsB, LsC, LsD, LsE, LsF]
 refine wpAnyH_take (i := 31) (v := ?_) rfl (by kernel_rfl) (by kernel_rfl) (by kernel_rfl) (fun _ _ _ h => h) (Or.inl ⟨by rfl, ?_⟩) hHeld3 ?_
 rotate_left
 ·intro w hSw1
  try dsimp only at hSw1
  go_simp
  try (with_reducible rfl)
 try simp only [Act.put, LsA, LsB, LsC, LsD, LsE, LsF]
 refine wpAnyH_take (i := 32) (v := ?_) rfl (by kernel_rfl) (by kernel_rfl) (by kernel_rfl) (fun _ _ _ h => h) (Or.inl ⟨by rfl, ?_⟩) hHeld3 ?_
 rotate_left
 ·intro w hSw1
  try dsimp only at hSw1
  go_simp
  try (with_reducible rfl)
 try simp only [Act.put, LsA, LsB, LsC, LsD, LsE, LsF]
 refine wpAnyH_take (i := 33) (v := ?_) rfl (by kernel_rfl) (by kernel_rfl) (by kernel_rfl) (fun _ _ _ h => h) (Or.inl ⟨by rfl, ?_⟩) hHeld3 ?_
 rotate_left
 ·intro w hSw1
  try dsimp only at hSw1
  go_simp
  try (with_reducible rfl)
 try simp only [Act.put, LsA, LsB, LsC, LsD, LsE, LsF]
 refine wpAnyH_take (i := 35) (v := ?_) rfl (by kernel_rfl) (by kernel_rfl) (by kernel_rfl) (fun _ _ _ h => h) (Or.inl ⟨by rfl, ?_⟩) hHeld3 ?_
 rotate_left
 ·intro w hSw1
  try dsimp only at hSw1
  go_simp
  try (with_reducible rfl)
 try simp only [Act.put, LsA, LsB, LsC, LsD, LsE, LsF]
 refine wpAnyH_take (i := 36) (v := ?_) rfl (by kernel_rfl) (by kernel_rfl) (by kernel_rfl) (fun _ _ _ h => h) (Or.inl ⟨by rfl, ?_⟩) hHeld3 ?_
 rotate_left
 ·intro w hSw1
  try dsimp only at hSw1
  go_simp
  try (with_reducible rfl)
 try simp only [Act.put, LsA, LsB, LsC, LsD, LsE, LsF]
 refine wpAnyH_take (i := 37) (v := ?_) rfl (by kernel_rfl) (by kernel_rfl) (by kernel_rfl) (fun _ _ _ h => h) (Or.inl ⟨by rfl, ?_⟩) hHeld3 ?_
 rotate_left
 ·intro w hSw1
  try dsimp only at hSw1
  go_simp
  try (with_reducible rfl)
 try simp only [Act.put, LsA, LsB, LsC, LsD, LsE, LsF]
 refine wpAnyH_take (i := 38) (v := ?_) rfl (by kernel_rfl) (by kernel_rfl) (by kernel_rfl) (fun _ _ _ h => h) (Or.inl ⟨by rfl, ?_⟩) hHeld3 ?_
 rotate_left
 ·intro w hSw1
  have tc := hSw1.out.1.cell
  have t7 := tc 7
  clear tc
  simp only [rtc, rtb, List.getElem?_toArray, List.getElem?_cons_zero, List.getElem?_cons_succ] at t7
  have tl := hSw1.out.1.lt
  go_simp
  try (with_reducible rfl)
 try simp only [Act.put, LsA, LsB, LsC, LsD, LsE, LsF]
 refine wpAnyH_ready (rs := [34]) (by kernel_rfl) (by simp) ?_
 refine AllReadyH.cons rfl (fun K hK => ?_) AllReadyH.nil
 go_simp
 refine (targetC_any k s b _ H1.out.1).mono ?_; rintro e Wq ⟨rfl, rfl⟩
 go_wp2_with fail
 refine hK.out _ _ (Lib.hid ⟨H1.out.2.1, trivial⟩) (fun hHeld4 => ?_)
 clear hK K hHeld3
 try simp only [Act.put, LsA, LsB, LsC, LsD, LsE, LsF]
 refine wpAnyH_take (i := 39) (v := ?_) rfl (by kernel_rfl) (by kernel_rfl) (by kernel_rfl) (fun _ _ _ h => h) (Or.inl ⟨by rfl, ?_⟩) hHeld4 ?_
 rotate_left
 ·intro w hSw1
  try dsimp only at hSw1
  go_simp
  try (with_reducible rfl)
 try simp only [Act.put, LsA, LsB, LsC, LsD, LsE, LsF]
 refine wpAnyH_take (i := 40) (v := ?_) rfl (by kernel_rfl) (by kernel_rfl) (by kernel_rfl) (fun _ _ _ h => h) (Or.inl ⟨by rfl, ?_⟩) hHeld4 ?_
 rotate_left
 ·intro w hSw1
  try dsimp only at hSw1
  go_simp
  try (with_reducible rfl)
 try simp only [Act.put, LsA, LsB, LsC, LsD, LsE, LsF]
 refine wpAnyH_take (i := 41) (v := ?_) rfl (by kernel_rfl) (by kernel_rfl) (by kernel_rfl) (fun _ _ _ h => h) (Or.inl ⟨by rfl, ?_⟩) hHeld4 ?_
 rotate_left
 ·intro w hSw1
  try dsimp only at hSw1
  go_simp
  try (with_reducible rfl)
 try simp only [Act.put, LsA, LsB, LsC, LsD, LsE, LsF]
 refine wpAnyH_take (i := 42) (v := ?_) rfl (by kernel_rfl) (by kernel_rfl) (by kernel_rfl) (fun _ _ _ h => h) (Or.inl ⟨by rfl, ?_⟩) hHeld4 ?_
 rotate_left
 ·intro w hSw1
  try dsimp only at hSw1
  go_simp
  try (with_reducible rfl)
 try simp only [Act.put, LsA, LsB, LsC, LsD, LsE, LsF]
 refine wpAnyH_take (i := 44) (v := ?_) rfl (by kernel_rfl) (by kernel_rfl) (by kernel_rfl) (fun _ _ _ h => h) (Or.inl ⟨by rfl, ?_⟩) hHeld4 ?_
 rotate_left
 ·intro w hSw1
  try dsimp only at hSw1
  go_simp
  try (with_reducible rfl)
 try simp only [Act.put, LsA, LsB, LsC, LsD, LsE, LsF]
 refine wpAnyH_take (i := 45) (v := ?_) rfl (by kernel_rfl) (by kernel_rfl) (by kernel_rfl) (fun _ _ _ h => h) (Or.inl ⟨by rfl, ?_⟩) hHeld4 ?_
 rotate_left
 ·intro w hSw1
  try dsimp only at hSw1
  go_simp
  try (with_reducible rfl)
 try simp only [Act.put, LsA, LsB, LsC, LsD, LsE, LsF]
 refine wpAnyH_take (i := 46) (v := ?_) rfl (by kernel_rfl) (by kernel_rfl) (by kernel_rfl) (fun _ _ _ h => h) (Or.inl ⟨by rfl, ?_⟩) hHeld4 ?_
 rotate_left
 ·intro w hSw1
  try dsimp only at hSw1
  go_simp
  try (with_reducible rfl)
 try simp only [Act.put, LsA, LsB, LsC, LsD, LsE, LsF]
 refine wpAnyH_take (i := 47) (v := ?_) rfl (by kernel_rfl) (by kernel_rfl) (by kernel_rfl) (fun _ _ _ h => h) (Or.inl ⟨by rfl, ?_⟩) hHeld4 ?_
 rotate_left
 ·intro w hSw1
  have tc := hSw1.out.1.cell
  have t9 := tc 9
  have t10 := tc 10
  have t11 := tc 11
  have t12 := tc 12
  have t13 := tc 13
  have t14 := tc 14
  have t15 := tc 15
  clear tc
  simp only [rtc, rtb, List.getElem?_toArray, List.getElem?_cons_zero, List.getElem?_cons_succ] at t9 t10 t11 t12 t13 t14 t15
  have tl := hSw1.out.1.lt
  go_simp
  try (with_reducible rfl)
 try simp only [Act.put, LsA, LsB, LsC, LsD, LsE, LsF]
 refine wpAnyH_ready (rs := [43]) (by kernel_rfl) (by simp) ?_
 refine AllReadyH.cons rfl (fun K hK => ?_) AllReadyH.nil
 go_simp
 refine (answer_any k s b S _ H1.out.1 H1.out.2.2.1 HL.out).mono ?_; rintro e W9 ⟨m9, a9, c9, rfl, hm9, hr9, k9⟩; have H9 := Lib.hid (And.intro hm9 (And.intro hr9 k9)); clear hm9 hr9 k9
 go_wp2_with fail
 refine hK.out _ _ (Lib.hid ⟨H1.out.2.1.step H9.out.2.2 (by simp), trivial⟩) (fun hHeld5 => ?_)
 clear hK K hHeld4
 try simp only [Act.put, LsA, LsB, LsC, LsD, LsE, LsF]
 refine wpAnyH_ready (rs := [48]) (by kernel_rfl) (by simp) ?_
 refine AllReadyH.cons rfl (fun K hK => ?_) AllReadyH.nil
 go_simp
 refine (sameA_any k.ans m9 m2 a9 a2 c9 c2 W9 H9.out.2.1 (H1.out.2.2.2.1.step H9.out.2.2) (by rw [H9.out.1, HR2.out.1]) (by have h := congrArg List.length H9.out.1; simp at h; have := HL.out.o; omega) (fun d hd => HL.out.p _ (by rw [← H9.out.1]; exact List.mem_map_of_mem hd))).mono ?_; rintro e W10 ⟨rfl, k10⟩; have H10 := Lib.hid k10; clear k10
 go_wp2_with fail
 refine hK.out _ _ (Lib.hid ⟨(H1.out.2.1.step H9.out.2.2 (by simp)).step H10.out (by simp), trivial⟩) (fun hHeld6 => ?_)
 clear hK K hHeld5
 try simp only [Act.put, LsA, LsB, LsC, LsD, LsE, LsF]
 refine wpAnyH_take (i := 49) (v := ?_) rfl (by kernel_rfl) (by kernel_rfl) (by kernel_rfl) (fun _ _ _ h => h) (Or.inl ⟨by rfl, ?_⟩) hHeld6 ?_
 rotate_left
 ·intro w hSw1
  try dsimp only at hSw1
  go_simp
  try (with_reducible rfl)
 try simp only [Act.put, LsA, LsB, LsC, LsD, LsE, LsF]
 refine wpAnyH_take (i := 50) (v := ?_) rfl (by kernel_rfl) (by kernel_rfl) (by kernel_rfl) (fun _ _ _ h => h) (Or.inl ⟨by rfl, ?_⟩) hHeld6 ?_
 rotate_left
 ·intro w hSw1
  try dsimp only at hSw1
  go_simp
  try (with_reducible rfl)
 try simp only [Act.put, LsA, LsB, LsC, LsD, LsE, LsF]
 refine wpAnyH_done (by kernel_rfl) ?_ _
 go_wp2_with fail
 exact bodyPost_ret (results_tmp rfl _ _ _) rfl ⟨rfl, (H1.out.2.2.2.2.trans H9.out.2.2).trans H10.out⟩
end Go.Proofs.Ytjfaplmojpldhaa
