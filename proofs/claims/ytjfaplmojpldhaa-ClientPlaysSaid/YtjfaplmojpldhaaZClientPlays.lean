/-
 ClientPlays: whatever is asked and heard, in any order, a client does what the reference does. No condition beyond the row's.
-/
import Derived.Test.YtjfaplmojpldhaaZGA
import Derived.Test.YtjfaplmojpldhaaZCliSame
import Derived.Test.YtjfaplmojpldhaaRows
namespace Go.Proofs.Ytjfaplmojpldhaa
open Go.RowKit Go.Lib Go.ChangeShapes Go.WideShapes Go.ChangeAt
set_option linter.unusedSimpArgs false
set_option linter.unusedVariables false
set_option maxRecDepth 100000

/-- A client and the reference's hold the same. -/
structure Two (w W : World) (b rb : Nat) (k : Ct) (s t : Value) : Prop where
 c : Blk W b 95 (ctc k s).toArray
 r : Blk W rb 71 (rtc k t).toArray
 st : Step [] [b, rb] w W
 cs : AnsAt W [b, rb] s k.ans
 rs : AnsAt W [b, rb] t k.ans
 kb : CtB k
 la : LenA k.ans
 ne : b ≠ rb
theorem Two.quiet {w W W' : World} {b rb : Nat} {k : Ct} {s t : Value} (h : Two w W b rb k s t) (q : Step [] [] W W') : Two w W' b rb k s t :=
 ⟨h.c.step q (by simp), h.r.step q (by simp), h.st.trans (q.keep _), h.cs.step q (by simp), h.rs.step q (by simp), h.kb, h.la, h.ne⟩
theorem Two.both {w W W1 W2 : World} {b rb : Nat} {k k' : Ct} {s t s' t' : Value} (h : Two w W b rb k s t) (c1 : Blk W1 b 95 (ctc k' s').toArray) (q1 : Step [b] [b] W W1) (a1 : AnsAt W1 [b, rb] s' k'.ans)
  (c2 : Blk W2 rb 71 (rtc k' t').toArray) (q2 : Step [rb] [rb] W1 W2) (a2 : AnsAt W2 [b, rb] t' k'.ans) (kb : CtB k') (la : LenA k'.ans) : Two w W2 b rb k' s' t' :=
 ⟨c1.step q2 (by simpa using h.ne), c2, (h.st.trans (q1.frameR [rb])).trans (q2.frame [b]), a1.step q2 (by simp), a2, kb, la, h.ne⟩
theorem tick_shape {k : Ct} (h : CtB k) : (tickC k).2 = (0, [], false) ∨ ∃ t : Int, 0 < t ∧ (tickC k).2 = (t, k.op, true) ∧ (tickC k).1.op = k.op := by
 have h1 := h.target
 have h2 := h.size
 unfold tickC
 repeat' split
 ·exact .inl rfl
 ·exact .inr ⟨_, by have := Int.tmod_nonneg k.size (show 0 ≤ k.target by omega); omega, rfl, rfl⟩
 ·exact .inr ⟨_, by omega, rfl, rfl⟩
 ·exact .inl rfl
theorem hear_la {k : Ct} {t : List UInt8} (h : LenA k.ans) (ht : t.length ≤ 2097152) : LenA (hearC k t).1.ans := by
 rcases Decidable.em (k.op = []) with ho | ho
 ·rw [show hearC k t = (k, false) from if_pos ho]
  exact h
 ·cases hd : decA t with
  | none => rw [hear_none ho hd, noteK_ans]; exact h
  | some x =>
   rw [(hear_some ho hd).2]
   split
   ·exact (refQ_yes ht hd).2.2.2.ln
   ·exact h
theorem anZ_la : LenA anZ := ⟨by simp [anZ], by simp [anZ]⟩
set_option maxHeartbeats 16000000 in
theorem plays24_any (i z p : Int) (l : List Oq) (a : Option Addr) (cap : Nat) (w : World) (hr : Rd w 29 a l.length (l.flatMap oqc)) (hq : ∀ x ∈ l, RdQ w x ∧ OqB x) (hl : l.length ≤ 9223372036854775807) : Calls Try.prog 6 #[.agg #[.int .i64 i, .int .i64 z, .int .i64 p], .slice a l.length cap] w fun e w' => e = .returned (.bool true) ∧ Step [] [] w w' := by
 have HR := Lib.hid (And.intro hr hq)
 have H00 : Hid (Blk (w.alloc (.cells #[.int .i64 i, .int .i64 z, .int .i64 p] 64)) w.heap.size 64 #[.int .i64 i, .int .i64 z, .int .i64 p] ∧ Step [] [] w (w.alloc (.cells #[.int .i64 i, .int .i64 z, .int .i64 p] 64))) := Lib.hid ⟨Blk.new w _ _, (Step.refl [] w).alloc _⟩
 clear hr hq
 go_enter Try.func6, Try.ntmps6
 go_upto_region 1 with fail
 change Code.wp _ _ _ _ (w.alloc (.cells #[.int .i64 i, .int .i64 z, .int .i64 p] 64))
 obtain ⟨nb, hnb⟩ : ∃ b, b = w.heap.size := ⟨_, rfl⟩
 obtain ⟨V, hV⟩ : ∃ V, V = (w.alloc (.cells #[.int .i64 i, .int .i64 z, .int .i64 p] 64)) := ⟨_, rfl⟩
 rw [← hV, ← hnb] at H00
 have H0 := H00
 rw [← hV]
 try rw [← hnb]
 clear hV hnb H00
 go_wp2_with fail
 refine (awake24_true V).mono ?_
 rintro e w2 ⟨rfl, k1⟩
 have H2 : Hid (Blk w2 nb 64 #[.int .i64 i, .int .i64 z, .int .i64 p] ∧ Step [] [] w w2) := Lib.hid ⟨H0.out.1.step k1 (by simp), H0.out.2.trans k1⟩
 clear k1 H0
 have fc := H2.out.1.cell
 have f0 := fc 0
 have f1 := fc 1
 have f2 := fc 2
 clear fc
 simp only [List.getElem?_nil, List.getElem?_toArray, List.getElem?_cons_zero, List.getElem?_cons_succ] at f0 f1 f2
 have fl := H2.out.1.lt
 go_wp2_with fail
 refine (new_any i z p w2).mono ?_
 rintro e w3 ⟨h1, k1⟩
 have H3 : Hid (Blk w3 nb 64 #[.int .i64 i, .int .i64 z, .int .i64 p] ∧ Step [] [] w w3) := Lib.hid ⟨H2.out.1.step k1 (by simp), H2.out.2.trans k1⟩
 have HK1 := Lib.hid k1
 clear f0 f1 f2 fl
 rcases h1 with ⟨hok, rfl, g1⟩ | ⟨hok, rfl⟩
 ·obtain ⟨b, hb⟩ : ∃ b, b = w2.heap.size := ⟨_, rfl⟩
  rw [← hb] at g1 ⊢
  have HB9 := Lib.hid hb
  clear hb
  have fc := H3.out.1.cell
  have f0 := fc 0
  have f1 := fc 1
  have f2 := fc 2
  clear fc
  simp only [List.getElem?_nil, List.getElem?_toArray, List.getElem?_cons_zero, List.getElem?_cons_succ] at f0 f1 f2
  have fl := H3.out.1.lt
  go_wp2_with fail
  refine (rnew_any i z p w3).mono ?_
  rintro e w4 ⟨rfl, g2, k2⟩
  rw [hok]
  obtain ⟨rb, hrb⟩ : ∃ b, b = w3.heap.size := ⟨_, rfl⟩
  rw [← hrb] at g2 ⊢
  have H4 : Hid (Two w w4 b rb (newC i z p) (.slice none 0 0) (.slice none 0 0)) := Lib.hid ⟨g1.step k2 (by simp), g2, by have h := H3.out.2.trans k2; exact ⟨h.os, h.tape, h.output, h.size, h.block, fun g hg => by have := HB9.out; have := H2.out.2.size; have := HK1.out.size; simp at hg; rcases hg with hg | hg <;> (subst hg; exact .inr (by omega))⟩, AnsAt.zero _ _, AnsAt.zero _ _, newC_b hok, anZ_la, by have := g1.lt; omega⟩
  clear g1 g2 k2 hrb H3 H2 HK1 f0 f1 f2 fl
  go_wp2_with fail
  refine (greatQ_any l a cap w4 (HR.out.1.step0 H4.out.st) (fun x hx => (HR.out.2 x hx).1.step H4.out.st) hl).mono ?_
  rintro e w5 ⟨g, rfl, hg, k5⟩
  have H5 := Lib.hid (H4.out.quiet k5)
  clear k5 H4 hok
  cases g with
  | true =>
   clear hg
   go_wp2_with fail
   exact bodyPost_ret (results_tmp rfl _ _ _) rfl ⟨rfl, (H5.out.st.drop (by simp))⟩
  | false =>
   have HS := Lib.hid (hg rfl).2
   have h200 := (hg rfl).1
   clear hg
   go_wp2_with fail
   go_loopw [60] (fun v W => ∃ (i : Nat) (s t : Value) (k : Ct), i ≤ l.length ∧ v = .int .i64 i ∧ Hid (Two w W b rb k s t)) (fun v _ => l.length - (intOf v).toNat)
   case atStart => exact ⟨0, _, _, _, by omega, rfl, H5⟩
   case round =>
    clear H5
    rename World => W
    obtain ⟨i, s, t, k, hi, rfl, HW⟩ := hrel
    by_cases hlt : i < l.length
    ·have hlt' : (i : Int) < l.length := by omega
     obtain ⟨x, hx⟩ : ∃ x, l[i]? = some x := ⟨_, List.getElem?_eq_getElem hlt⟩
     have HRQ : Hid (RdQ w x) := Lib.hid (HR.out.2 x (List.mem_of_getElem? hx)).1
     have HQB : Hid (OqB x ∧ SmQ x) := Lib.hid ⟨(HR.out.2 x (List.mem_of_getElem? hx)).2, HS.out x (List.mem_of_getElem? hx)⟩
     have r1 := HR.out.1.step0 HW.out.st
     obtain ⟨g, off, hsa⟩ := r1.some_ (by omega)
     rw [hsa] at r1
     have HRG := Lib.hid (range_oq (sp := none) r1 hx)
     have HSA := Lib.hid hsa
     rw [hsa]
     clear hsa r1 hx
     have HN : Hid (Blk (W.alloc (.cells opZ 56)) W.heap.size 56 opZ) := Lib.hid (Blk.new W _ _)
     go_upto_region 14 with (first | (refine wpList_load_mid rfl 56 (.tmp 62) rfl g (off + i * 29) rfl (oqc x) _ HRG.out Try.underlying56 rfl (by kernel_rfl) ?_) | (refine wpList_storeRow (T := 56) (b := W.heap.size) (T' := 56) (cs := opZ) (vs := (oqc x).toArray) rfl (.tmp 10) (.tmp 63) rfl rfl rfl Try.sOq HN.out rfl (oqc_one x) ?_; intro U hU ss))
     have kk : Step [] [] W U := ((Step.refl [] W).alloc _).out1' ss (by simp)
     obtain ⟨ob, hb⟩ : ∃ b, b = W.heap.size := ⟨_, rfl⟩
     rw [← hb] at hU ⊢
     obtain ⟨V1, hUU⟩ : ∃ V, V = U := ⟨_, rfl⟩
     rw [← hUU] at hU kk ⊢
     have hob := hb; clear ss HN hb hUU
     have H6 : Hid (Two w V1 b rb k s t ∧ Blk V1 ob 56 (oqc x).toArray ∧ b ≠ ob ∧ rb ≠ ob) := Lib.hid ⟨HW.out.quiet kk, hU, by have := HW.out.c.lt; omega, by have := HW.out.r.lt; omega⟩
     clear hob hU kk U HRG HW
     have qc := H6.out.2.1.cell
     have q0 := qc 0
     clear qc
     simp only [oqc, List.getElem?_toArray, List.getElem?_cons_zero, List.getElem?_cons_succ] at q0
     have ql := H6.out.2.1.lt
     go_upto_block 2 with fail
     clear q0 ql
     go_cut [] (fun wx => ∃ (s2 t2 : Value) (k2 : Ct), Hid (Two w wx b rb k2 s2 t2))
     case first =>
      by_cases q0 : x.k = 0
      ·have e0 : (x.k == 0) = true := by simp [q0]
       clear q0
       have HRM := Lib.hid (range_blk H6.out.2.1 1 [.int .i64 x.cmd.client, .int .i64 x.cmd.seq, Str x.cmd.token, .int .i64 x.cmd.kind, Str x.cmd.name, Str x.cmd.other, Str x.cmd.word, Str x.cmd.salt, .int .i64 x.cmd.bytes, .int .i64 x.cmd.keys, Str x.cmd.gf, Str x.cmd.gt, .bool x.cmd.gr, .bool x.cmd.gw, .int .i64 x.cmd.rev, .slice x.a1 x.cmd.ifs.length x.c1, .slice x.a2 x.cmd.thens.length x.c2, .slice x.a3 x.cmd.elses.length x.c3] rfl)
       go_wp2_with (refine wpList_load_mid rfl 44 (.tmp 79) rfl ob 1 rfl [.int .i64 x.cmd.client, .int .i64 x.cmd.seq, Str x.cmd.token, .int .i64 x.cmd.kind, Str x.cmd.name, Str x.cmd.other, Str x.cmd.word, Str x.cmd.salt, .int .i64 x.cmd.bytes, .int .i64 x.cmd.keys, Str x.cmd.gf, Str x.cmd.gt, .bool x.cmd.gr, .bool x.cmd.gw, .int .i64 x.cmd.rev, .slice x.a1 x.cmd.ifs.length x.c1, .slice x.a2 x.cmd.thens.length x.c2, .slice x.a3 x.cmd.elses.length x.c3] _ HRM.out Try.underlying44 rfl (by kernel_rfl) ?_)
       clear HRM
       refine (ask_any k s b x.cmd x.a1 x.a2 x.a3 x.c1 x.c2 x.c3 V1 H6.out.1.c H6.out.1.kb (HRQ.out.step H6.out.1.st).rc (askX_b H6.out.1.kb HQB.out.1.cmd) HQB.out.2.lenS).mono ?_
       rintro e V2 ⟨rfl, g2, k2⟩
       have HK := Lib.hid (ask_keep k x.cmd)
       have H7 : Hid (Blk V2 b 95 (ctc (askC k x.cmd).1 s).toArray ∧ Step [b] [b] V1 V2 ∧ Blk V2 ob 56 (oqc x).toArray ∧ Blk V2 rb 71 (rtc k t).toArray) := Lib.hid ⟨g2, k2, H6.out.2.1.step k2 (by simpa using H6.out.2.2.1.symm), H6.out.1.r.step k2 (by simpa using H6.out.1.ne.symm)⟩
       clear g2 k2
       have HRM := Lib.hid (range_blk H7.out.2.2.1 1 [.int .i64 x.cmd.client, .int .i64 x.cmd.seq, Str x.cmd.token, .int .i64 x.cmd.kind, Str x.cmd.name, Str x.cmd.other, Str x.cmd.word, Str x.cmd.salt, .int .i64 x.cmd.bytes, .int .i64 x.cmd.keys, Str x.cmd.gf, Str x.cmd.gt, .bool x.cmd.gr, .bool x.cmd.gw, .int .i64 x.cmd.rev, .slice x.a1 x.cmd.ifs.length x.c1, .slice x.a2 x.cmd.thens.length x.c2, .slice x.a3 x.cmd.elses.length x.c3] rfl)
       go_wp2_with (refine wpList_load_mid rfl 44 (.tmp 86) rfl ob 1 rfl [.int .i64 x.cmd.client, .int .i64 x.cmd.seq, Str x.cmd.token, .int .i64 x.cmd.kind, Str x.cmd.name, Str x.cmd.other, Str x.cmd.word, Str x.cmd.salt, .int .i64 x.cmd.bytes, .int .i64 x.cmd.keys, Str x.cmd.gf, Str x.cmd.gt, .bool x.cmd.gr, .bool x.cmd.gw, .int .i64 x.cmd.rev, .slice x.a1 x.cmd.ifs.length x.c1, .slice x.a2 x.cmd.thens.length x.c2, .slice x.a3 x.cmd.elses.length x.c3] _ HRM.out Try.underlying44 rfl (by kernel_rfl) ?_)
       clear HRM
       refine (rask_any k t rb x.cmd x.a1 x.a2 x.a3 x.c1 x.c2 x.c3 V2 H7.out.2.2.2 H6.out.1.kb (HRQ.out.step (H6.out.1.st.trans (H7.out.2.1.frameR [rb]))).rc (askX_b H6.out.1.kb HQB.out.1.cmd) HQB.out.2.lenS).mono ?_
       rintro e V3 ⟨rfl, g3, k3⟩
       have H8 : Hid (Two w V3 b rb (askC k x.cmd).1 s t) := Lib.hid (H6.out.1.both H7.out.1 H7.out.2.1 (by rw [HK.out.2.1]; exact H6.out.1.cs.step H7.out.2.1 (by simp)) g3 k3 (by rw [HK.out.2.1]; exact (H6.out.1.rs.step H7.out.2.1 (by simp)).step k3 (by simp)) (askC_b H6.out.1.kb) (by rw [HK.out.2.1]; exact H6.out.1.la))
       clear g3 k3 H7 H6 HK
       obtain ⟨⟨k9, s9, e9⟩, hk9⟩ : ∃ q, q = askC k x.cmd := ⟨_, rfl⟩
       rw [← hk9] at H8 ⊢
       clear hk9
       go_wp2_with fail
       go_meet
       exact ⟨_, _, _, H8⟩
      ·have e0 : (x.k == 0) = false := by simp [q0]
       clear q0
       by_cases q1 : x.k = 1
       ·have e1 : (x.k == 1) = true := by simp [q1]
        clear q1
        go_wp2_with fail
        refine (tick_any k s b V1 H6.out.1.c H6.out.1.kb).mono ?_
        rintro e V2 ⟨rfl, g2, k2⟩
        have HK := Lib.hid (tick_keep k)
        have H7 : Hid (Blk V2 b 95 (ctc (tickC k).1 s).toArray ∧ Step [b] [b] V1 V2 ∧ Blk V2 rb 71 (rtc k t).toArray) := Lib.hid ⟨g2, k2, H6.out.1.r.step k2 (by simpa using H6.out.1.ne.symm)⟩
        clear g2 k2
        go_wp2_with fail
        refine (rtick_any k t rb V2 H7.out.2.2 H6.out.1.kb).mono ?_
        rintro e V3 ⟨rfl, g3, k3⟩
        have H8 : Hid (Two w V3 b rb (tickC k).1 s t) := Lib.hid (H6.out.1.both H7.out.1 H7.out.2.1 (by rw [HK.out.2.2]; exact H6.out.1.cs.step H7.out.2.1 (by simp)) g3 k3 (by rw [HK.out.2.2]; exact (H6.out.1.rs.step H7.out.2.1 (by simp)).step k3 (by simp)) (tickC_b H6.out.1.kb) (by rw [HK.out.2.2]; exact H6.out.1.la))
        have HSH := Lib.hid (tick_shape H6.out.1.kb)
        clear g3 k3 H7 H6 HK
        obtain ⟨⟨k9, n9, s9, o9⟩, hk9⟩ : ∃ q, q = tickC k := ⟨_, rfl⟩
        rw [← hk9] at H8 HSH ⊢
        clear hk9
        rcases HSH.out with h | ⟨u, hu, h, hop⟩
        ·simp only [Prod.mk.injEq] at h
         obtain ⟨h1, h2, h3⟩ := h
         subst h1 h2 h3
         clear HSH
         go_wp2_with fail
         go_meet
         exact ⟨_, _, _, H8⟩
        ·simp only [Prod.mk.injEq] at h
         obtain ⟨h1, h2, h3⟩ := h
         subst h1 h2 h3
         have hud : decide (0 < n9) = true := decide_eq_true hu
         dsimp only at hop
         clear HSH hu
         have fc := H8.out.r.cell
         have f5 := fc 5
         clear fc
         simp only [rtc, rtb, List.getElem?_toArray, List.getElem?_cons_zero, List.getElem?_cons_succ] at f5
         have fl := H8.out.r.lt
         rw [hop] at f5
         clear hop
         go_wp2_with fail
         go_meet
         exact ⟨_, _, _, H8⟩
       ·have e1 : (x.k == 1) = false := by simp [q1]
        clear q1
        go_wp2_with (refine wpList_loadRow (T := 56) (b := ob) (T' := 56) (cs := #[.int .i64 x.k, .int .i64 x.cmd.client, .int .i64 x.cmd.seq, Str x.cmd.token, .int .i64 x.cmd.kind, Str x.cmd.name, Str x.cmd.other, Str x.cmd.word, Str x.cmd.salt, .int .i64 x.cmd.bytes, .int .i64 x.cmd.keys, Str x.cmd.gf, Str x.cmd.gt, .bool x.cmd.gr, .bool x.cmd.gw, .int .i64 x.cmd.rev, .slice x.a1 x.cmd.ifs.length x.c1, .slice x.a2 x.cmd.thens.length x.c2, .slice x.a3 x.cmd.elses.length x.c3, Str x.text, .int .i64 x.ans.client, .int .i64 x.ans.seq, .int .i64 x.ans.err, .int .i64 x.ans.rev, .bool x.ans.yes, .slice x.a x.m.length x.c, Str x.ans.token, .int .i64 x.err, .int .i64 x.lead]) rfl (.tmp 10) rfl rfl Try.sOq H6.out.2.1 ?_)
        refine (heard_any x V1 (HRQ.out.step H6.out.1.st) HQB.out.1 HQB.out.2).mono ?_
        rintro e V2 ⟨rfl, k2⟩
        obtain ⟨T, hT⟩ : ∃ T, T = heardC x := ⟨_, rfl⟩
        rw [← hT]
        have HT : Hid (T.length ≤ 2097152) := Lib.hid (by rw [hT]; exact heard_len HQB.out.2 HQB.out.1)
        have H7 := Lib.hid (H6.out.1.quiet k2)
        clear k2 hT H6
        go_wp2_with fail
        refine (hear_any k s b [b, rb] T V2 H7.out.c ⟨by simp, by have := H7.out.c.lt; have := H7.out.r.lt; simp; omega⟩ H7.out.cs (by have := HT.out; omega)).mono ?_
        rintro e V3 ⟨s', rfl, g3, k3, n3⟩
        have H8 : Hid (Blk V3 b 95 (ctc (hearC k T).1 s').toArray ∧ Step [b] [b] V2 V3 ∧ AnsAt V3 [b, rb] s' (hearC k T).1.ans ∧ Blk V3 rb 71 (rtc k t).toArray ∧ AnsAt V3 [b, rb] t k.ans) := Lib.hid ⟨g3, k3, n3, H7.out.r.step k3 (by simpa using H7.out.ne.symm), H7.out.rs.step k3 (by simp)⟩
        clear g3 k3 n3
        go_wp2_with fail
        refine (rhear_any k t rb [b, rb] T V3 H8.out.2.2.2.1 ⟨by simp, by have := H8.out.1.lt; have := H8.out.2.2.2.1.lt; simp; omega⟩ H8.out.2.2.2.2 HT.out).mono ?_
        rintro e V4 ⟨t', rfl, g4, k4, n4⟩
        have H9 : Hid (Two w V4 b rb (hearC k T).1 s' t') := Lib.hid (H7.out.both H8.out.1 H8.out.2.1 H8.out.2.2.1 g4 k4 n4 (hearC_b H7.out.kb) (hear_la H7.out.la HT.out))
        clear g4 k4 n4 H8 H7
        obtain ⟨⟨k9, o9⟩, hk9⟩ : ∃ q, q = hearC k T := ⟨_, rfl⟩
        rw [← hk9] at H9 ⊢
        clear hk9
        have ho9 : (o9 != o9) = false := by simp
        go_wp2_with fail
        go_meet
        exact ⟨_, _, _, H9⟩
     case rest =>
      rename World => X
      obtain ⟨s2, t2, k2, H9⟩ := hcut
      clear H6
      go_wp2_with fail
      refine (same24_any k2 s2 t2 b rb [b, rb] X H9.out.c H9.out.r H9.out.cs H9.out.rs H9.out.la).mono ?_
      rintro e X2 ⟨rfl, kk⟩
      have H10 := Lib.hid (H9.out.quiet kk)
      clear kk H9
      go_wp2_with fail
      go_roundw
      case rel => exact ⟨i + 1, s2, t2, k2, by omega, by go_num, H10⟩
      case measure => simp [intOf]; omega
    ·obtain rfl : i = l.length := by omega
     have HD := Lib.hid (HW.out.st.drop (by simp) : Step [] [] w W)
     clear HW
     have hnl : ¬ (l.length : Int) < l.length := by omega
     go_wp2_with fail
     exact bodyPost_ret (results_tmp rfl _ _ _) rfl ⟨rfl, HD.out⟩
 ·have fc := H3.out.1.cell
  have f0 := fc 0
  have f1 := fc 1
  have f2 := fc 2
  clear fc
  simp only [List.getElem?_nil, List.getElem?_toArray, List.getElem?_cons_zero, List.getElem?_cons_succ] at f0 f1 f2
  have fl := H3.out.1.lt
  go_wp2_with fail
  refine (rnew_any i z p w3).mono ?_
  rintro e w4 ⟨rfl, g2, k2⟩
  rw [hok]
  have HD := Lib.hid (H3.out.2.trans k2)
  clear g2 k2 H3 H2 HK1 hok f0 f1 f2 fl
  go_wp2_with fail
  exact bodyPost_ret (results_tmp rfl _ _ _) rfl ⟨rfl, HD.out⟩
theorem okWide_arrP {P : Program} {w : World} {r : Reach} {base : Nat} {t e : TypeId} {n : Nat} {v : Value} (ht : P.underlying t = some (.array n e)) (h : Value.okWide P w r base t v) : ∃ cs, v = .agg cs ∧ cs.size = P.cellsOf t := by
 unfold Value.okWide at h
 rw [ht] at h
 cases v <;> simp_all
theorem int3_in {w : World} {b : Nat} {v : Value} (hv : Value.okWide Try.prog w .any b 64 v) (h : Op Try.prog w 64 v.cells.toList) : ∃ i z p : Int, v = .agg #[.int .i64 i, .int .i64 z, .int .i64 p] := by
 obtain ⟨cs, rfl, _⟩ := okWide_arrP Try.underlying64 hv
 obtain ⟨h1, h2⟩ := Op.array Try.underlying64 h
 have hc : Try.prog.cellsOf 3 = 1 := by kernel_rfl
 have hc3 : Try.prog.cellsOf 64 = 3 := by kernel_rfl
 obtain ⟨i, e1, _⟩ := (h2 0 (by omega)).int Try.underlying3
 obtain ⟨z, e2, _⟩ := (h2 1 (by omega)).int Try.underlying3
 obtain ⟨p, e3, _⟩ := (h2 2 (by omega)).int Try.underlying3
 rw [hc] at e1 e2 e3
 rw [hc3] at h1
 refine ⟨i, z, p, ?_⟩
 obtain ⟨l⟩ := cs
 simp only [Value.cells] at h1 e1 e2 e3
 match l, h1 with
 | [x, y, u], _ =>
  simp at e1 e2 e3
  rw [e1, e2, e3]

theorem ClientPlays_walk (v0 v1 : Value) (w : World) {b0 b1 : Nat} (h0 : Value.okWide Try.prog w .any b0 64 v0) (o0 : Op Try.prog w 64 v0.cells.toList) (h1 : Value.okWide Try.prog w .any b1 50 v1) (o1 : Op Try.prog w 50 v1.cells.toList) :
  Calls Try.prog 6 #[v0, v1] w fun e w' => e = .returned (.bool true) ∧ Below w.heap.size w w' := by
 obtain ⟨i, z, p, rfl⟩ := int3_in h0 o0
 obtain ⟨l, a, cap, rfl, hr, hx, hl⟩ := ops_in h1 o1
 exact (plays24_any i z p l a cap w hr hx hl).mono fun e w' ⟨h1, h2⟩ => ⟨h1, h2.below0⟩
set_option maxRecDepth 100000 in
theorem ClientPlays_lifted (os : Os) (started : os.Started) (H : Type) (enc : TypeId × Value → H) :
  ReturnsInHanded {} Try.checked os 6 .any (Rows.clientPlaysSpec.pre6 enc Try.prog Try.f6 Rows.clientPlaysRow.domain false) (Rows.clientPlaysSpec.post enc Try.prog Try.f6 false true false false) := by
 refine returnsInHanded_of_change_sized (C := Try.checked) (by kernel_rfl) started (by kernel_rfl) Try.func6
  (ChangeSpec.witness6 (enc := enc) (C := Try.checked) false ⟨#[], #[.agg #[.int .i64 0, .int .i64 0, .int .i64 0], .slice none 0 0], []⟩ 8 (by kernel_rfl) (by kernel_rfl) (by kernel_rfl) (by kernel_rfl)) ?_
 intro W base args ds gs before hval0 hW hcnd hsz0 _
 have hval : ∀ (j : Nat) t v, Try.f6.params[j]? = some t → args[j]? = some v → Value.okWide Try.prog W .any base t v := hval0
 have hsz : (DataW.weightsEach Try.prog (Try.f6.params.toList ++ Rows.clientPlaysSpec.plain.varTypes Try.prog) (ds ++ gs)).all (· ≤ reachBytes) = true := hsz0
 have hW' := hW
 obtain ⟨p, q, hA0, hV, rfl, hfz, hnd⟩ := hW
 have hA : DataW.TrodAll enc Try.prog W 0 (fun _ => true) true Try.f6.params.toList args.toList ds p := hA0
 rw [Try.params6] at hA hval hsz
 obtain ⟨v0, vs0, d0, ds0, p0, q0, hargs, rfl, rfl, h0, r0⟩ := trodAll_cons hA
 obtain ⟨v1, vs1, d1, ds1, p1, q1, rfl, rfl, rfl, h1, r1⟩ := trodAll_cons r0
 obtain ⟨rfl, rfl, rfl⟩ := trodAll_nil r1
 obtain rfl : args = #[v0, v1] := by cases args; simp_all
 obtain ⟨rfl, rfl⟩ := trodVars_none hV
 have lt0 : ∀ x ∈ p0, x.block < W.heap.size := by obtain ⟨m, hm⟩ := h0; exact DataW.trod_lt m _ _ _ hm
 have o0 := op_of hsz (j := 0) rfl rfl h0
 have lt1 : ∀ x ∈ p1, x.block < W.heap.size := by obtain ⟨m, hm⟩ := h1; exact DataW.trod_lt m _ _ _ hm
 have o1 := op_of hsz (j := 1) rfl rfl h1
 refine (ClientPlays_walk v0 v1 W (hval 0 _ v0 rfl rfl) o0 (hval 1 _ v1 rfl rfl) o1).mono fun e W' ⟨he, bel⟩ => ?_
 subst he
 exact ⟨_, rfl, _, _, _, [], _, [], hW', trodAll_mk1 (shut_bool Try.underlying4 _), (trodAll_cons_mk (Below.trod (by kernel_rfl) (by kernel_rfl) (of_decide_eq_true (by kernel_rfl)) h0 bel lt0) (trodAll_cons_mk (Below.trod (by kernel_rfl) (by kernel_rfl) (of_decide_eq_true (by kernel_rfl)) h1 bel lt1) trodAll_mk0)), rfl, bel.frame _, fun h => by cases h⟩

/-- The statement. -/
theorem ClientPlays_holds : Rows.ClientPlaysSaid :=
 OpenClaim.holds_of_wide 6 Try.f6 rfl rfl rfl rfl rfl rfl rfl ⟨rfl, rfl, rfl, rfl, rfl⟩ rfl rfl rfl rfl rfl (by kernel_rfl) Try.func6 (by kernel_rfl)
  (of_decide_eq_true (by kernel_rfl)) (by unfold Func.isWrapper; rw [if_neg (of_decide_eq_false (by kernel_rfl))]; exact ⟨rfl, rfl⟩)
  (fun os started H enc _ => ClientPlays_lifted os started H enc)
#print axioms ClientPlays_holds
end Go.Proofs.Ytjfaplmojpldhaa
