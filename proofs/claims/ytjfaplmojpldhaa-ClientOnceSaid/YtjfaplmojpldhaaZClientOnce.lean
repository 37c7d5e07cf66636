/-
 ClientOnce: each request is answered once at most, by an answer with its number, and the numbers rise by one. No condition beyond the row's.
-/
import Derived.Test.YtjfaplmojpldhaaZGA
import Derived.Test.YtjfaplmojpldhaaZCliGreat
import Derived.Test.YtjfaplmojpldhaaZCliPlain2
import Derived.Test.YtjfaplmojpldhaaRows
namespace Go.Proofs.Ytjfaplmojpldhaa
open Go.RowKit Go.Lib Go.ChangeShapes Go.WideShapes Go.ChangeAt
set_option linter.unusedSimpArgs false
set_option linter.unusedVariables false
set_option maxRecDepth 100000

set_option maxHeartbeats 16000000 in
theorem once24_any (z q : Nat) (l : List Oq) (a : Option Addr) (cap : Nat) (w : World) (hz : z ≤ 255) (hq2 : q ≤ 255) (hr : Rd w 29 a l.length (l.flatMap oqc)) (hq : ∀ x ∈ l, RdQ w x ∧ OqB x) (hl : l.length ≤ 9223372036854775807) : Calls Try.prog 5 #[.int .u8 (z : Int), .int .u8 (q : Int), .slice a l.length cap] w fun e w' => e = .returned (.bool true) ∧ Step [] [] w w' := by
 have HR := Lib.hid (And.intro hr hq)
 clear hr hq
 go_enter Try.func5, Try.ntmps5
 go_wp2_with fail
 refine (awake24_true _).mono ?_
 rintro x w1 ⟨rfl, k1⟩
 have H1 : Hid (Step [] [] w w1) := Lib.hid k1
 clear k1
 go_wp2_with fail
 refine (greatQ_any l a cap w1 (HR.out.1.step0 H1.out) (fun x hx => (HR.out.2 x hx).1.step H1.out) hl).mono ?_
 rintro e w2 ⟨g, rfl, hg, k2⟩
 have H2 : Hid (Step [] [] w w2) := Lib.hid (H1.out.trans k2)
 clear k2 H1
 cases g with
 | true =>
  clear hg
  go_wp2_with fail
  exact bodyPost_ret (results_tmp rfl _ _ _) rfl ⟨rfl, H2.out⟩
 | false =>
  have HS := Lib.hid (hg rfl).2
  have h200 := (hg rfl).1
  clear hg
  go_wp2_with fail
  refine (new_any (1 + (z : Int) % 8) (1 + (q : Int) % 7) 3 w2).mono ?_
  have hok : okNew (1 + (z : Int) % 8) (1 + (q : Int) % 7) 3 = true := okNew_iff.2 ⟨by omega, by omega, by omega⟩
  rintro e w3 ⟨h1 | h1, k1⟩
  ·obtain ⟨_, rfl, g1⟩ := h1
   obtain ⟨b, hb⟩ : ∃ b, b = w2.heap.size := ⟨_, rfl⟩
   rw [← hb] at g1 ⊢
   have H3 : Hid (∃ (s : Value) (k : Ct), (Blk w3 b 95 (ctc k s).toArray ∧ Step [] [b] w w3 ∧ AnsAt w3 [b] s k.ans ∧ b < w3.heap.size ∧ CtB k ∧ k.id = 1 + (z : Int) % 8 ∧ k.seq = ((0 : Nat) : Int)) ∧ ((k.op = [] ∧ 0 = 0) ∨ (¬ k.op = [] ∧ 0 = 0 + 1))) := Lib.hid ⟨_, _, ⟨g1, H2.out.trans ⟨k1.os, k1.tape, k1.output, k1.size, k1.block, fun g hg => by simp at hg; subst hg; exact .inr (by omega)⟩, AnsAt.zero _ _, g1.lt, newC_b hok, rfl, rfl⟩, .inl ⟨rfl, rfl⟩⟩
   clear k1 g1 hb H2 hok
   have HZ9 := Lib.hid hz
   clear hz hq2
   go_wp2_with fail
   go_loopw [9, 10, 40] (fun va vb v W => ∃ (i A B : Nat) (s : Value) (k : Ct), i ≤ l.length ∧ A ≤ i ∧ va = .int .i64 A ∧ vb = .int .i64 B ∧ v = .int .i64 i ∧ Hid ((Blk W b 95 (ctc k s).toArray ∧ Step [] [b] w W ∧ AnsAt W [b] s k.ans ∧ b < W.heap.size ∧ CtB k ∧ k.id = 1 + (z : Int) % 8 ∧ k.seq = (A : Int)) ∧ ((k.op = [] ∧ A = B) ∨ (¬ k.op = [] ∧ A = B + 1)))) (fun _ _ v _ => l.length - (intOf v).toNat)
   case atStart => obtain ⟨s9, k9, H9⟩ := H3.out; exact ⟨0, 0, 0, s9, k9, by omega, by omega, rfl, rfl, rfl, Lib.hid ⟨H9.1, by simpa using H9.2⟩⟩
   case round =>
    clear H3
    rename World => W
    obtain ⟨i, A, B, s, k, hi, hAi, rfl, rfl, rfl, HW⟩ := hrel
    by_cases hlt : i < l.length
    ·have hlt' : (i : Int) < l.length := by omega
     obtain ⟨x, hx⟩ : ∃ x, l[i]? = some x := ⟨_, List.getElem?_eq_getElem hlt⟩
     have HRQ : Hid (RdQ w x) := Lib.hid (HR.out.2 x (List.mem_of_getElem? hx)).1
     have HQB : Hid (OqB x ∧ SmQ x) := Lib.hid ⟨(HR.out.2 x (List.mem_of_getElem? hx)).2, HS.out x (List.mem_of_getElem? hx)⟩
     have r1 := HR.out.1.step0 HW.out.1.2.1
     obtain ⟨g, off, hsa⟩ := r1.some_ (by omega)
     rw [hsa] at r1
     have HRG := Lib.hid (range_oq (sp := none) r1 hx)
     have HSA := Lib.hid hsa
     rw [hsa]
     clear hsa r1 hx
     have HN : Hid (Blk (W.alloc (.cells opZ 56)) W.heap.size 56 opZ) := Lib.hid (Blk.new W _ _)
     go_upto_region 12 with (first | (refine wpList_load_mid rfl 56 (.tmp 42) rfl g (off + i * 29) rfl (oqc x) _ HRG.out Try.underlying56 rfl (by kernel_rfl) ?_) | (refine wpList_storeRow (T := 56) (b := W.heap.size) (T' := 56) (cs := opZ) (vs := (oqc x).toArray) rfl (.tmp 12) (.tmp 43) rfl rfl rfl Try.sOq HN.out rfl (oqc_one x) ?_; intro U hU ss))
     have kk : Step [] [] W U := ((Step.refl [] W).alloc _).out1' ss (by simp)
     obtain ⟨ob, hb⟩ : ∃ b, b = W.heap.size := ⟨_, rfl⟩
     rw [← hb] at hU ⊢
     obtain ⟨V1, hUU⟩ : ∃ V, V = U := ⟨_, rfl⟩
     rw [← hUU] at hU kk ⊢
     have hob := hb; clear ss HN hb hUU
     have H4 : Hid ((Blk V1 b 95 (ctc k s).toArray ∧ Step [] [b] w V1 ∧ AnsAt V1 [b] s k.ans ∧ b < V1.heap.size ∧ CtB k ∧ k.id = 1 + (z : Int) % 8 ∧ k.seq = (A : Int)) ∧ Blk V1 ob 56 (oqc x).toArray ∧ RdQ V1 x ∧ ob ≠ b) := Lib.hid ⟨⟨HW.out.1.1.step kk (by simp), HW.out.1.2.1.trans (kk.keep [b]), HW.out.1.2.2.1.step kk (by simp), Nat.lt_of_lt_of_le HW.out.1.2.2.2.1 kk.size, HW.out.1.2.2.2.2⟩, hU, HRQ.out.step (HW.out.1.2.1.trans (kk.keep [b])), by have := HW.out.1.2.2.2.1; have := hob; omega⟩
     have hopn := HW.out.2
     clear hob hU kk U HRG HW HRQ
     have pc := H4.out.2.1.cell
     have p0 := pc 0
     clear pc
     simp only [oqc, List.getElem?_toArray, List.getElem?_cons_zero, List.getElem?_cons_succ] at p0
     have pl := H4.out.2.1.lt
     by_cases q0 : x.k = 0
     ·have e0 : (x.k == 0) = true := by simp [q0]
      clear q0
      have HRM := Lib.hid (range_blk H4.out.2.1 1 [.int .i64 x.cmd.client, .int .i64 x.cmd.seq, Str x.cmd.token, .int .i64 x.cmd.kind, Str x.cmd.name, Str x.cmd.other, Str x.cmd.word, Str x.cmd.salt, .int .i64 x.cmd.bytes, .int .i64 x.cmd.keys, Str x.cmd.gf, Str x.cmd.gt, .bool x.cmd.gr, .bool x.cmd.gw, .int .i64 x.cmd.rev, .slice x.a1 x.cmd.ifs.length x.c1, .slice x.a2 x.cmd.thens.length x.c2, .slice x.a3 x.cmd.elses.length x.c3] rfl)
      go_wp2_with (refine wpList_load_mid rfl 44 (.tmp 49) rfl ob 1 rfl [.int .i64 x.cmd.client, .int .i64 x.cmd.seq, Str x.cmd.token, .int .i64 x.cmd.kind, Str x.cmd.name, Str x.cmd.other, Str x.cmd.word, Str x.cmd.salt, .int .i64 x.cmd.bytes, .int .i64 x.cmd.keys, Str x.cmd.gf, Str x.cmd.gt, .bool x.cmd.gr, .bool x.cmd.gw, .int .i64 x.cmd.rev, .slice x.a1 x.cmd.ifs.length x.c1, .slice x.a2 x.cmd.thens.length x.c2, .slice x.a3 x.cmd.elses.length x.c3] _ HRM.out Try.underlying44 rfl (by kernel_rfl) ?_)
      clear HRM
      refine (ask_any k s b x.cmd x.a1 x.a2 x.a3 x.c1 x.c2 x.c3 V1 H4.out.1.1 H4.out.1.2.2.2.2.1 H4.out.2.2.1.rc (askX_b H4.out.1.2.2.2.2.1 HQB.out.1.cmd) HQB.out.2.lenS).mono ?_
      rintro e V2 ⟨rfl, g2, k2⟩
      have HK := Lib.hid (ask_keep k x.cmd)
      have H5 : Hid (Blk V2 b 95 (ctc (askC k x.cmd).1 s).toArray ∧ Step [] [b] w V2 ∧ AnsAt V2 [b] s (askC k x.cmd).1.ans ∧ b < V2.heap.size ∧ CtB (askC k x.cmd).1 ∧ (askC k x.cmd).1.id = 1 + (z : Int) % 8) := Lib.hid ⟨g2, H4.out.1.2.1.trans k2, by rw [HK.out.2.1]; exact H4.out.1.2.2.1.step k2 (by simp), Nat.lt_of_lt_of_le H4.out.1.2.2.2.1 k2.size, askC_b H4.out.1.2.2.2.2.1, by rw [HK.out.1]; exact H4.out.1.2.2.2.2.2.1⟩
      have HSQ : Hid (k.seq = (A : Int)) := Lib.hid H4.out.1.2.2.2.2.2.2
      clear g2 k2 HK H4 p0 pl
      rcases hopn with ⟨ho, hAB⟩ | ⟨ho, hAB⟩
      ·subst hAB
       rcases ask_cases x.cmd ho with ⟨es, hes, hv⟩ | ⟨er, her, hv⟩
       ·rw [hv] at H5 ⊢
        have HE := Lib.hid hes
        clear hv ho hes
        have HSA2 : Hid (k.seq + 1 = ((A + 1 : Nat) : Int)) := Lib.hid (by rw [HSQ.out]; omega)
        go_wp2_with fail
        refine (seqC_any _ s b V2 H5.out.1).mono ?_
        rintro e V3 ⟨rfl, rfl⟩
        rw [show ({k with seq := k.seq + 1, op := es, waited := 0} : Ct).seq = ((A + 1 : Nat) : Int) from HSA2.out]
        go_wp2_with fail
        go_roundw
        case rel => exact ⟨i + 1, A + 1, A, s, _, by omega, by omega, by go_num, by go_num, by go_num, Lib.hid ⟨⟨H5.out.1, H5.out.2.1, H5.out.2.2.1, H5.out.2.2.2.1, H5.out.2.2.2.2.1, H5.out.2.2.2.2.2, HSA2.out⟩, .inr ⟨HE.out, rfl⟩⟩⟩
        case measure => simp [intOf]; omega
       ·rw [hv] at H5 ⊢
        have ee : (er == 0) = false := by simpa using her
        have HO := Lib.hid ho
        clear hv ho her
        go_wp2_with fail
        refine (seqC_any _ s b V2 H5.out.1).mono ?_
        rintro e V3 ⟨rfl, rfl⟩
        rw [show k.seq = (A : Int) from HSQ.out]
        go_wp2_with fail
        go_roundw
        case rel => exact ⟨i + 1, A, A, s, _, by omega, by omega, by go_num, by go_num, by go_num, Lib.hid ⟨⟨H5.out.1, H5.out.2.1, H5.out.2.2.1, H5.out.2.2.2.1, H5.out.2.2.2.2.1, H5.out.2.2.2.2.2, HSQ.out⟩, .inl ⟨HO.out, rfl⟩⟩⟩
        case measure => simp [intOf]; omega
      ·rw [ask_busy x.cmd ho] at H5 ⊢
       have HO := Lib.hid (And.intro ho hAB)
       clear ho hAB
       go_wp2_with fail
       refine (seqC_any _ s b V2 H5.out.1).mono ?_
       rintro e V3 ⟨rfl, rfl⟩
       rw [show k.seq = (A : Int) from HSQ.out]
       go_wp2_with fail
       go_roundw
       case rel => exact ⟨i + 1, A, B, s, _, by omega, by omega, by go_num, by go_num, by go_num, Lib.hid ⟨⟨H5.out.1, H5.out.2.1, H5.out.2.2.1, H5.out.2.2.2.1, H5.out.2.2.2.2.1, H5.out.2.2.2.2.2, HSQ.out⟩, .inr HO.out⟩⟩
       case measure => simp [intOf]; omega
     ·have e0 : (x.k == 0) = false := by simp [q0]
      clear q0
      by_cases q1 : x.k = 1
      ·have e1 : (x.k == 1) = true := by simp [q1]
       clear q1
       go_wp2_with fail
       refine (tick_any k s b V1 H4.out.1.1 H4.out.1.2.2.2.2.1).mono ?_
       rintro e V2 ⟨rfl, g2, k2⟩
       have HK := Lib.hid (tick_keep k)
       have H5 : Hid ((Blk V2 b 95 (ctc (tickC k).1 s).toArray ∧ Step [] [b] w V2 ∧ AnsAt V2 [b] s (tickC k).1.ans ∧ b < V2.heap.size ∧ CtB (tickC k).1 ∧ (tickC k).1.id = 1 + (z : Int) % 8 ∧ (tickC k).1.seq = (A : Int)) ∧ (((tickC k).1.op = [] ∧ A = B) ∨ (¬ (tickC k).1.op = [] ∧ A = B + 1))) := Lib.hid ⟨⟨g2, H4.out.1.2.1.trans k2, by rw [HK.out.2.2]; exact H4.out.1.2.2.1.step k2 (by simp), Nat.lt_of_lt_of_le H4.out.1.2.2.2.1 k2.size, tickC_b H4.out.1.2.2.2.2.1, by rw [HK.out.1.id]; exact H4.out.1.2.2.2.2.2.1, by rw [HK.out.1.seq]; exact H4.out.1.2.2.2.2.2.2⟩, by rw [HK.out.2.1]; exact hopn⟩
       clear g2 k2 HK H4 hopn p0 pl
       go_wp2_with fail
       go_roundw
       case rel => exact ⟨i + 1, A, B, s, _, by omega, by omega, by go_num, by go_num, by go_num, Lib.hid ⟨H5.out.1, H5.out.2⟩⟩
       case measure => simp [intOf]; omega
      ·have e1 : (x.k == 1) = false := by simp [q1]
       clear q1
       go_wp2_with (refine wpList_loadRow (T := 56) (b := ob) (T' := 56) (cs := #[.int .i64 x.k, .int .i64 x.cmd.client, .int .i64 x.cmd.seq, Str x.cmd.token, .int .i64 x.cmd.kind, Str x.cmd.name, Str x.cmd.other, Str x.cmd.word, Str x.cmd.salt, .int .i64 x.cmd.bytes, .int .i64 x.cmd.keys, Str x.cmd.gf, Str x.cmd.gt, .bool x.cmd.gr, .bool x.cmd.gw, .int .i64 x.cmd.rev, .slice x.a1 x.cmd.ifs.length x.c1, .slice x.a2 x.cmd.thens.length x.c2, .slice x.a3 x.cmd.elses.length x.c3, Str x.text, .int .i64 x.ans.client, .int .i64 x.ans.seq, .int .i64 x.ans.err, .int .i64 x.ans.rev, .bool x.ans.yes, .slice x.a x.m.length x.c, Str x.ans.token, .int .i64 x.err, .int .i64 x.lead]) rfl (.tmp 12) rfl rfl Try.sOq H4.out.2.1 ?_)
       refine (heard_any x V1 H4.out.2.2.1 HQB.out.1 HQB.out.2).mono ?_
       rintro e V2 ⟨rfl, k2⟩
       obtain ⟨T, hT⟩ : ∃ T, T = heardC x := ⟨_, rfl⟩
       rw [← hT]
       have HT : Hid (T.length ≤ 2097152) := Lib.hid (by rw [hT]; exact heard_len HQB.out.2 HQB.out.1)
       have H5 : Hid (Blk V2 b 95 (ctc k s).toArray ∧ Step [] [b] w V2 ∧ AnsAt V2 [b] s k.ans ∧ b < V2.heap.size ∧ CtB k ∧ k.id = 1 + (z : Int) % 8 ∧ k.seq = (A : Int)) := Lib.hid ⟨H4.out.1.1.step k2 (by simp), H4.out.1.2.1.trans (k2.keep [b]), H4.out.1.2.2.1.step k2 (by simp), Nat.lt_of_lt_of_le H4.out.1.2.2.2.1 k2.size, H4.out.1.2.2.2.2⟩
       clear k2 hT H4 p0 pl
       go_wp2_with fail
       refine (hear_any k s b [b] T V2 H5.out.1 ⟨by simp, by have := H5.out.2.2.2.1; simpa using this⟩ H5.out.2.2.1 (by have := HT.out; omega)).mono ?_
       rintro e V3 ⟨s', rfl, g3, k3, n3⟩
       have HK := Lib.hid (hear_keep k T)
       have H6 : Hid (Blk V3 b 95 (ctc (hearC k T).1 s').toArray ∧ Step [] [b] w V3 ∧ AnsAt V3 [b] s' (hearC k T).1.ans ∧ b < V3.heap.size ∧ CtB (hearC k T).1 ∧ (hearC k T).1.id = 1 + (z : Int) % 8 ∧ (hearC k T).1.seq = (A : Int)) := Lib.hid ⟨g3, H5.out.2.1.trans k3, n3, Nat.lt_of_lt_of_le H5.out.2.2.2.1 k3.size, hearC_b H5.out.2.2.2.2.1, by rw [HK.out.id]; exact H5.out.2.2.2.2.2.1, by rw [HK.out.seq]; exact H5.out.2.2.2.2.2.2⟩
       have HIS : Hid (k.id = 1 + (z : Int) % 8 ∧ k.seq = (A : Int)) := Lib.hid H5.out.2.2.2.2.2
       clear g3 k3 n3 HK H5
       rcases hear_cases k T with ⟨y, ho, hy, hy1, hy2, hv⟩ | ⟨hv, hop⟩
       ·rw [hv] at H6 ⊢
        have hAB : A = B + 1 := by rcases hopn with ⟨h, _⟩ | ⟨_, h⟩; exact absurd h ho; exact h
        have HAB := Lib.hid hAB
        have hBA : B < A := by omega
        have hd8 : decide ((B : Int) + 1 < (A : Int)) = false := decide_eq_false (by omega)
        have hd9 : decide (B + 1 < A) = false := decide_eq_false (by omega)
        clear hAB
        have HY : Hid (decA T = some y ∧ y.client = 1 + (z : Int) % 8 ∧ y.seq = (A : Int)) := Lib.hid ⟨hy, by rw [hy1, HIS.out.1], by rw [hy2, HIS.out.2]⟩
        clear hv ho hy hy1 hy2 hopn
        go_wp2_with fail
        refine (refReadA_any T V3 HT.out).mono ?_
        rintro e V4 ⟨k4, h4⟩
        obtain ⟨ha, hb2, hc, hd⟩ := refQ_yes HT.out HY.out.1
        rw [ha] at h4
        rcases h4 with ⟨h41, h42, m, a4, c4, rfl, hm, hrd, _⟩ | ⟨hno, rfl⟩
        ·clear h41 h42 hm hrd ha hb2 hc hd
         have HNZ : Hid (Blk (V4.alloc (.cells anZ7 54)) V4.heap.size 54 anZ7) := Lib.hid (Blk.new V4 _ _)
         go_upto_region 24 with (refine wpList_storeRow (T := 54) (b := V4.heap.size) (T' := 54) (cs := anZ7) (vs := (anc y (.slice a4 m.length c4)).toArray) rfl (.tmp 16) (.tmp 87) rfl rfl rfl Try.sAns HNZ.out rfl (anc_one y _ rfl) ?_; intro U hU ss)
         have kk : Step [] [] V3 U := (k4.alloc _).out1' ss (by simp; exact k4.size)
         obtain ⟨nb, hnb⟩ : ∃ b, b = V4.heap.size := ⟨_, rfl⟩
         rw [← hnb] at hU ⊢
         obtain ⟨V5, hUU⟩ : ∃ V, V = U := ⟨_, rfl⟩
         rw [← hUU] at hU kk ⊢
         clear ss HNZ hnb hUU k4
         have H7 : Hid ((Blk V5 b 95 (ctc (hearA k y) s').toArray ∧ Step [] [b] w V5 ∧ AnsAt V5 [b] s' (hearA k y).ans ∧ b < V5.heap.size ∧ CtB (hearA k y) ∧ (hearA k y).id = 1 + (z : Int) % 8 ∧ (hearA k y).seq = (A : Int)) ∧ Blk V5 nb 54 (anc y (.slice a4 m.length c4)).toArray) := Lib.hid ⟨⟨H6.out.1.step kk (by simp), H6.out.2.1.trans (kk.keep [b]), H6.out.2.2.1.step kk (by simp), Nat.lt_of_lt_of_le H6.out.2.2.2.1 kk.size, H6.out.2.2.2.2⟩, hU⟩
         clear hU kk U H6
         have pc := H7.out.2.cell
         have p0 := pc 0
         have p1 := pc 1
         clear pc
         simp only [anc, List.getElem?_toArray, List.getElem?_cons_zero, List.getElem?_cons_succ] at p0 p1
         have pl := H7.out.2.lt
         have hz := HZ9.out
         have y1 : (y.seq != (A : Int)) = false := by rw [HY.out.2.2]; simp
         have y2 : (y.client != 1 + (z : Int) % 8) = false := by rw [HY.out.2.1]; simp
         go_wp2_with fail
         clear p0 p1 pl
         clear y1 y2 hz
         refine (hear_any (hearA k y) s' b [b] T V5 H7.out.1.1 ⟨by simp, by have := H7.out.1.2.2.2.1; simpa using this⟩ H7.out.1.2.2.1 (by have := HT.out; omega)).mono ?_
         rintro e V6 ⟨s6, rfl, g6, k6, n6⟩
         rw [hear_shut T (show (hearA k y).op = [] from rfl)] at g6 n6 ⊢
         have H8 : Hid (Blk V6 b 95 (ctc (hearA k y) s6).toArray ∧ Step [] [b] w V6 ∧ AnsAt V6 [b] s6 (hearA k y).ans ∧ b < V6.heap.size ∧ CtB (hearA k y) ∧ (hearA k y).id = 1 + (z : Int) % 8 ∧ (hearA k y).seq = (A : Int)) := Lib.hid ⟨g6, H7.out.1.2.1.trans k6, n6, Nat.lt_of_lt_of_le H7.out.1.2.2.2.1 k6.size, H7.out.1.2.2.2.2⟩
         clear g6 k6 n6 H7
         go_wp2_with fail
         refine (openC_any (hearA k y) s6 b V6 H8.out.1).mono ?_
         rintro e V7 ⟨rfl, k7⟩
         have H9 : Hid (Blk V7 b 95 (ctc (hearA k y) s6).toArray ∧ Step [] [b] w V7 ∧ AnsAt V7 [b] s6 (hearA k y).ans ∧ b < V7.heap.size ∧ CtB (hearA k y) ∧ (hearA k y).id = 1 + (z : Int) % 8 ∧ (hearA k y).seq = (A : Int)) := Lib.hid ⟨H8.out.1.step k7 (by simp), H8.out.2.1.trans (k7.keep [b]), H8.out.2.2.1.step k7 (by simp), Nat.lt_of_lt_of_le H8.out.2.2.2.1 k7.size, H8.out.2.2.2.2⟩
         clear k7 H8
         rw [show (hearA k y).op = [] from rfl]
         go_wp2_with fail
         go_roundw
         case rel => exact ⟨i + 1, A, B + 1, s6, _, by omega, by omega, by go_num, by go_num, by go_num, Lib.hid ⟨H9.out, .inl ⟨rfl, HAB.out⟩⟩⟩
         case measure => simp [intOf]; omega
        ·exact absurd ⟨hc, hb2⟩ hno
       ·rw [hv]
        go_wp2_with fail
        refine (openC_any (hearC k T).1 s' b V3 H6.out.1).mono ?_
        rintro e V4 ⟨rfl, k4⟩
        have H7 : Hid (Blk V4 b 95 (ctc (hearC k T).1 s').toArray ∧ Step [] [b] w V4 ∧ AnsAt V4 [b] s' (hearC k T).1.ans ∧ b < V4.heap.size ∧ CtB (hearC k T).1 ∧ (hearC k T).1.id = 1 + (z : Int) % 8 ∧ (hearC k T).1.seq = (A : Int)) := Lib.hid ⟨H6.out.1.step k4 (by simp), H6.out.2.1.trans (k4.keep [b]), H6.out.2.2.1.step k4 (by simp), Nat.lt_of_lt_of_le H6.out.2.2.2.1 k4.size, H6.out.2.2.2.2⟩
        clear k4 H6
        rw [hop]
        rcases hopn with ⟨ho, hAB⟩ | ⟨ho, hAB⟩
        ·subst hAB
         have HO := Lib.hid (And.intro ho hop)
         rw [ho]
         clear ho hop hv
         go_wp2_with fail
         go_roundw
         case rel => exact ⟨i + 1, A, A, s', _, by omega, by omega, by go_num, by go_num, by go_num, Lib.hid ⟨H7.out, .inl ⟨by rw [HO.out.2, HO.out.1], rfl⟩⟩⟩
         case measure => simp [intOf]; omega
        ·have HO := Lib.hid (And.intro ho (And.intro hop hAB))
         have hd8 : decide ((B : Int) < (A : Int)) = true := decide_eq_true (by omega)
         have hd9 : decide (B < A) = true := decide_eq_true (by omega)
         have hne : (!k.op.isEmpty) = true := by cases hk : k.op with | nil => exact absurd hk ho | cons => rfl
         rw [hne]
         clear ho hop hv hne hAB
         go_wp2_with fail
         go_roundw
         case rel => exact ⟨i + 1, A, B, s', _, by omega, by omega, by go_num, by go_num, by go_num, Lib.hid ⟨H7.out, .inr ⟨by rw [HO.out.2.1]; exact HO.out.1, HO.out.2.2⟩⟩⟩
         case measure => simp [intOf]; omega
    ·obtain rfl : i = l.length := by omega
     have hBA : B ≤ A := by rcases HW.out.2 with ⟨_, h⟩ | ⟨_, h⟩ <;> omega
     have HD := Lib.hid (HW.out.1.2.1.drop (by simp) : Step [] [] w W)
     clear HW
     have hle : decide ((B : Int) ≤ (A : Int)) = true := decide_eq_true (by omega)
     go_wp2_with fail
     exact bodyPost_ret (results_tmp rfl _ _ _) rfl ⟨rfl, HD.out⟩
  ·exact absurd h1.1 (by rw [hok]; simp)
theorem u8o_in {w : World} {b : Nat} {v : Value} (hv : Value.okWide Try.prog w .any b 5 v) (h : Op Try.prog w 5 v.cells.toList) : ∃ n : Nat, v = .int .u8 (n : Int) ∧ n ≤ 255 := by
 obtain ⟨n, rfl⟩ := okWide_int Try.underlying5 hv
 obtain ⟨n', e1, w1⟩ := h.int Try.underlying5
 have e2 : n = n' := by
  have := congrArg List.head? e1
  simpa [Value.cells] using this
 subst e2
 simp [Lit.wf, IntKind.min, IntKind.max, IntKind.signed, IntKind.bits] at w1
 exact ⟨n.toNat, by rw [Int.toNat_of_nonneg (by omega)], by omega⟩

theorem ClientOnce_walk (v0 v1 v2 : Value) (w : World) {b0 b1 b2 : Nat} (h0 : Value.okWide Try.prog w .any b0 5 v0) (o0 : Op Try.prog w 5 v0.cells.toList) (h1 : Value.okWide Try.prog w .any b1 5 v1) (o1 : Op Try.prog w 5 v1.cells.toList) (h2 : Value.okWide Try.prog w .any b2 50 v2) (o2 : Op Try.prog w 50 v2.cells.toList) :
  Calls Try.prog 5 #[v0, v1, v2] w fun e w' => e = .returned (.bool true) ∧ Below w.heap.size w w' := by
 obtain ⟨z, rfl, hz⟩ := u8o_in h0 o0
 obtain ⟨q, rfl, hq⟩ := u8o_in h1 o1
 obtain ⟨l, a, cap, rfl, hr, hx, hl⟩ := ops_in h2 o2
 exact (once24_any z q l a cap w hz hq hr hx hl).mono fun e w' ⟨h1, h2⟩ => ⟨h1, h2.below0⟩
set_option maxRecDepth 100000 in
theorem ClientOnce_lifted (os : Os) (started : os.Started) (H : Type) (enc : TypeId × Value → H) :
  ReturnsInHanded {} Try.checked os 5 .any (Rows.clientOnceSpec.pre6 enc Try.prog Try.f5 Rows.clientOnceRow.domain false) (Rows.clientOnceSpec.post enc Try.prog Try.f5 false true false false) := by
 refine returnsInHanded_of_change_sized (C := Try.checked) (by kernel_rfl) started (by kernel_rfl) Try.func5
  (ChangeSpec.witness6 (enc := enc) (C := Try.checked) false ⟨#[], #[.int .u8 0, .int .u8 0, .slice none 0 0], []⟩ 8 (by kernel_rfl) (by kernel_rfl) (by kernel_rfl) (by kernel_rfl)) ?_
 intro W base args ds gs before hval0 hW hcnd hsz0 _
 have hval : ∀ (j : Nat) t v, Try.f5.params[j]? = some t → args[j]? = some v → Value.okWide Try.prog W .any base t v := hval0
 have hsz : (DataW.weightsEach Try.prog (Try.f5.params.toList ++ Rows.clientOnceSpec.plain.varTypes Try.prog) (ds ++ gs)).all (· ≤ reachBytes) = true := hsz0
 have hW' := hW
 obtain ⟨p, q, hA0, hV, rfl, hfz, hnd⟩ := hW
 have hA : DataW.TrodAll enc Try.prog W 0 (fun _ => true) true Try.f5.params.toList args.toList ds p := hA0
 rw [Try.params5] at hA hval hsz
 obtain ⟨v0, vs0, d0, ds0, p0, q0, hargs, rfl, rfl, h0, r0⟩ := trodAll_cons hA
 obtain ⟨v1, vs1, d1, ds1, p1, q1, rfl, rfl, rfl, h1, r1⟩ := trodAll_cons r0
 obtain ⟨v2, vs2, d2, ds2, p2, q2, rfl, rfl, rfl, h2, r2⟩ := trodAll_cons r1
 obtain ⟨rfl, rfl, rfl⟩ := trodAll_nil r2
 obtain rfl : args = #[v0, v1, v2] := by cases args; simp_all
 obtain ⟨rfl, rfl⟩ := trodVars_none hV
 have lt0 : ∀ x ∈ p0, x.block < W.heap.size := by obtain ⟨m, hm⟩ := h0; exact DataW.trod_lt m _ _ _ hm
 have o0 := op_of hsz (j := 0) rfl rfl h0
 have lt1 : ∀ x ∈ p1, x.block < W.heap.size := by obtain ⟨m, hm⟩ := h1; exact DataW.trod_lt m _ _ _ hm
 have o1 := op_of hsz (j := 1) rfl rfl h1
 have lt2 : ∀ x ∈ p2, x.block < W.heap.size := by obtain ⟨m, hm⟩ := h2; exact DataW.trod_lt m _ _ _ hm
 have o2 := op_of hsz (j := 2) rfl rfl h2
 refine (ClientOnce_walk v0 v1 v2 W (hval 0 _ v0 rfl rfl) o0 (hval 1 _ v1 rfl rfl) o1 (hval 2 _ v2 rfl rfl) o2).mono fun e W' ⟨he, bel⟩ => ?_
 subst he
 exact ⟨_, rfl, _, _, _, [], _, [], hW', trodAll_mk1 (shut_bool Try.underlying4 _), (trodAll_cons_mk (Below.trod (by kernel_rfl) (by kernel_rfl) (of_decide_eq_true (by kernel_rfl)) h0 bel lt0) (trodAll_cons_mk (Below.trod (by kernel_rfl) (by kernel_rfl) (of_decide_eq_true (by kernel_rfl)) h1 bel lt1) (trodAll_cons_mk (Below.trod (by kernel_rfl) (by kernel_rfl) (of_decide_eq_true (by kernel_rfl)) h2 bel lt2) trodAll_mk0))), rfl, bel.frame _, fun h => by cases h⟩

/-- The statement. -/
theorem ClientOnce_holds : Rows.ClientOnceSaid :=
 OpenClaim.holds_of_wide 5 Try.f5 rfl rfl rfl rfl rfl rfl rfl ⟨rfl, rfl, rfl, rfl, rfl⟩ rfl rfl rfl rfl rfl (by kernel_rfl) Try.func5 (by kernel_rfl)
  (of_decide_eq_true (by kernel_rfl)) (by unfold Func.isWrapper; rw [if_neg (of_decide_eq_false (by kernel_rfl))]; exact ⟨rfl, rfl⟩)
  (fun os started H enc _ => ClientOnce_lifted os started H enc)
#print axioms ClientOnce_holds
end Go.Proofs.Ytjfaplmojpldhaa
