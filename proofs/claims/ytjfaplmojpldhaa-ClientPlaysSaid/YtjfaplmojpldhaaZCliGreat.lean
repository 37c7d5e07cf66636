/-
 law24's great: where it says no, there are at most 200 Ops, and each is small. No condition.
-/
import Derived.Test.YtjfaplmojpldhaaZCliOp
import Derived.Deep.DeepCutAuto
import Derived.Deep.CutBlock
namespace Go.Proofs.Ytjfaplmojpldhaa
open Go.RowKit
set_option linter.unusedSimpArgs false
set_option linter.unusedVariables false
set_option maxRecDepth 100000

def GreatQ (l : List Oq) (w : World) (e : Ending) (w' : World) : Prop := ∃ g, e = .returned (.bool g) ∧ (g = false → l.length ≤ 200 ∧ ∀ x ∈ l, SmQ x) ∧ Step [] [] w w'
theorem all_atQ {α : Type} {p : α → Prop} {l : List α} (h : ∀ (j : Nat) (a : α), j < l.length → l[j]? = some a → p a) : ∀ a ∈ l, p a := by
 intro a ha
 obtain ⟨j, hj⟩ := List.getElem?_of_mem ha
 exact h j a (List.getElem?_eq_some_iff.1 hj).1 hj
theorem all_nextQ {α : Type} {p : α → Prop} {l : List α} {k : Nat} {b : α} (h : ∀ (j : Nat) (a : α), j < k → l[j]? = some a → p a) (hb : l[k]? = some b) (hp : p b) : ∀ (j : Nat) (a : α), j < k + 1 → l[j]? = some a → p a := by
 intro j a hj ha
 by_cases hk : j = k
 ·subst hk
  rw [hb] at ha
  cases ha
  exact hp
 ·exact h j a (by omega) ha
def opZ : Array Value := #[.int .i64 0, .int .i64 0, .int .i64 0, .string ⟨#[]⟩, .int .i64 0, .string ⟨#[]⟩, .string ⟨#[]⟩, .string ⟨#[]⟩, .string ⟨#[]⟩, .int .i64 0, .int .i64 0, .string ⟨#[]⟩, .string ⟨#[]⟩, .bool false, .bool false, .int .i64 0, .slice none 0 0, .slice none 0 0, .slice none 0 0, .string ⟨#[]⟩, .int .i64 0, .int .i64 0, .int .i64 0, .int .i64 0, .bool false, .slice none 0 0, .string ⟨#[]⟩, .int .i64 0, .int .i64 0]
def cmZq : Array Value := #[.int .i64 0, .int .i64 0, .string ⟨#[]⟩, .int .i64 0, .string ⟨#[]⟩, .string ⟨#[]⟩, .string ⟨#[]⟩, .string ⟨#[]⟩, .int .i64 0, .int .i64 0, .string ⟨#[]⟩, .string ⟨#[]⟩, .bool false, .bool false, .int .i64 0, .slice none 0 0, .slice none 0 0, .slice none 0 0]
theorem range_oq {w : World} {l : List Oq} {g off : Nat} {sp : Option Nat} {n : Nat} (h : Rd w 29 (some ⟨g, off, none⟩) n (l.flatMap oqc)) {k : Nat} {x : Oq} (hx : l[k]? = some x) : w.rangeAt g (off + k * 29) (oqc x) := by
 intro j v hv
 have hj : j < 29 := by
  have := (List.getElem?_eq_some_iff.1 hv).1
  rw [oqc_len] at this
  exact this
 have := rd_fl oqc 29 oqc_len h hx j hj v hv
 exact this
theorem range_blk {w : World} {b : Nat} {T : TypeId} {cs : Array Value} (h : Blk w b T cs) (i : Nat) (ds : List Value) (hd : (cs.toList.drop i).take ds.length = ds) : w.rangeAt b i ds := by
 intro j v hv
 have hj : j < ds.length := (List.getElem?_eq_some_iff.1 hv).1
 rw [h.cell]
 rw [← hd, List.getElem?_take, if_pos (by rw [hd] at *; exact hj), List.getElem?_drop] at hv
 simpa using hv
def oqT (x : Oq) : List (List UInt8) := [x.text, x.cmd.name, x.cmd.other, x.cmd.word, x.cmd.salt, x.cmd.gf, x.cmd.gt, x.ans.token]
set_option maxHeartbeats 16000000 in
theorem greatQ_any (l : List Oq) (a : Option Addr) (cap : Nat) (w : World) (hr : Rd w 29 a l.length (l.flatMap oqc)) (hq : ∀ x ∈ l, RdQ w x) (hl : l.length ≤ 9223372036854775807) : Calls Try.prog 17 #[.slice a l.length cap] w (GreatQ l w) := by
 have HR := Lib.hid (And.intro hr hq)
 clear hr hq
 go_enter Try.func17, Try.ntmps17
 by_cases h200 : (200 : Int) < l.length
 ·have h2d : decide ((200 : Int) < l.length) = true := decide_eq_true h200
  go_wp2_with fail
  exact bodyPost_ret (results_tmp rfl _ _ _) rfl ⟨true, rfl, by simp, Step.refl _ _⟩
 have h2d : decide ((200 : Int) < l.length) = false := decide_eq_false h200
 have h3 : l.length ≤ 200 := by omega
 clear h200
 go_wp2_with fail
 clear h2d
 go_loopw [23] (fun i W => ∃ k : Nat, i = .int .i64 k ∧ k ≤ l.length ∧ Hid (Step [] [] w W ∧ ∀ (j : Nat) (x : Oq), j < k → l[j]? = some x → SmQ x)) (fun i _ => l.length - (intOf i).toNat)
 case atStart => exact ⟨0, rfl, by omega, Lib.hid ⟨Step.refl _ _, by intro j t hj; omega⟩⟩
 case round =>
  rename World => W
  obtain ⟨k, rfl, hk, HW⟩ := hrel
  by_cases hlt : k < l.length
  ·have hlt' : (k : Int) < l.length := by omega
   obtain ⟨x, hx⟩ : ∃ x, l[k]? = some x := ⟨_, List.getElem?_eq_getElem hlt⟩
   have HRQ : Hid (RdQ W x) := Lib.hid ((HR.out.2 x (List.mem_of_getElem? hx)).step HW.out.1)
   have r1 := HR.out.1.step0 HW.out.1
   obtain ⟨g, off, hsa⟩ := r1.some_ (by omega)
   rw [hsa] at r1
   have HRG := Lib.hid (range_oq (sp := none) r1 hx)
   have HSA := Lib.hid hsa
   rw [hsa]
   clear hsa r1
   have HX := Lib.hid hx
   clear hx
   have HN : Hid (Blk (W.alloc (.cells opZ 56)) W.heap.size 56 opZ) := Lib.hid (Blk.new W _ _)
   go_upto_region 6 with (first | (refine wpList_load_mid rfl 56 (.tmp 25) rfl g (off + k * 29) rfl (oqc x) _ HRG.out Try.underlying56 rfl (by kernel_rfl) ?_) | (refine wpList_storeRow (T := 56) (b := W.heap.size) (T' := 56) (cs := opZ) (vs := (oqc x).toArray) rfl (.tmp 4) (.tmp 26) rfl rfl rfl Try.sOq HN.out rfl (oqc_one x) ?_; intro U hU ss))
   have kk : Step [] [] W U := ((Step.refl [] W).alloc _).out1' ss (by simp)
   obtain ⟨ob, hb⟩ : ∃ b, b = W.heap.size := ⟨_, rfl⟩
   rw [← hb] at hU ⊢
   obtain ⟨V1, hUU⟩ : ∃ V, V = U := ⟨_, rfl⟩
   rw [← hUU] at hU kk ⊢
   clear ss HN hb hUU
   have H1 : Hid (Blk V1 ob 56 (oqc x).toArray ∧ Step [] [] w V1) := Lib.hid ⟨hU, HW.out.1.trans kk⟩
   have HK1 := Lib.hid kk
   clear hU kk U HRG
   have HRM := Lib.hid (range_blk H1.out.1 1 [.int .i64 x.cmd.client, .int .i64 x.cmd.seq, Str x.cmd.token, .int .i64 x.cmd.kind, Str x.cmd.name, Str x.cmd.other, Str x.cmd.word, Str x.cmd.salt, .int .i64 x.cmd.bytes, .int .i64 x.cmd.keys, Str x.cmd.gf, Str x.cmd.gt, .bool x.cmd.gr, .bool x.cmd.gw, .int .i64 x.cmd.rev, .slice x.a1 x.cmd.ifs.length x.c1, .slice x.a2 x.cmd.thens.length x.c2, .slice x.a3 x.cmd.elses.length x.c3] rfl)
   have HN : Hid (Blk (V1.alloc (.cells cmZq 44)) V1.heap.size 44 cmZq) := Lib.hid (Blk.new V1 _ _)
   go_upto_region 7 with (first | (refine wpList_load_mid rfl 44 (.tmp 27) rfl ob 1 rfl [.int .i64 x.cmd.client, .int .i64 x.cmd.seq, Str x.cmd.token, .int .i64 x.cmd.kind, Str x.cmd.name, Str x.cmd.other, Str x.cmd.word, Str x.cmd.salt, .int .i64 x.cmd.bytes, .int .i64 x.cmd.keys, Str x.cmd.gf, Str x.cmd.gt, .bool x.cmd.gr, .bool x.cmd.gw, .int .i64 x.cmd.rev, .slice x.a1 x.cmd.ifs.length x.c1, .slice x.a2 x.cmd.thens.length x.c2, .slice x.a3 x.cmd.elses.length x.c3] _ HRM.out Try.underlying44 rfl (by kernel_rfl) ?_) | (refine wpList_storeRow (T := 44) (b := V1.heap.size) (T' := 44) (cs := cmZq) (vs := #[.int .i64 x.cmd.client, .int .i64 x.cmd.seq, Str x.cmd.token, .int .i64 x.cmd.kind, Str x.cmd.name, Str x.cmd.other, Str x.cmd.word, Str x.cmd.salt, .int .i64 x.cmd.bytes, .int .i64 x.cmd.keys, Str x.cmd.gf, Str x.cmd.gt, .bool x.cmd.gr, .bool x.cmd.gw, .int .i64 x.cmd.rev, .slice x.a1 x.cmd.ifs.length x.c1, .slice x.a2 x.cmd.thens.length x.c2, .slice x.a3 x.cmd.elses.length x.c3]) rfl (.tmp 5) (.tmp 28) rfl rfl rfl Try.sCmd HN.out rfl (by simp [Value.oneCell']) ?_; intro U hU ss))
   have kk : Step [] [] V1 U := ((Step.refl [] V1).alloc _).out1' ss (by simp)
   obtain ⟨cb, hb⟩ : ∃ b, b = V1.heap.size := ⟨_, rfl⟩
   rw [← hb] at hU ⊢
   obtain ⟨V2, hUU⟩ : ∃ V, V = U := ⟨_, rfl⟩
   rw [← hUU] at hU kk ⊢
   clear ss HN hb hUU
   have H2 : Hid (Blk V2 ob 56 (oqc x).toArray ∧ Blk V2 cb 44 #[.int .i64 x.cmd.client, .int .i64 x.cmd.seq, Str x.cmd.token, .int .i64 x.cmd.kind, Str x.cmd.name, Str x.cmd.other, Str x.cmd.word, Str x.cmd.salt, .int .i64 x.cmd.bytes, .int .i64 x.cmd.keys, Str x.cmd.gf, Str x.cmd.gt, .bool x.cmd.gr, .bool x.cmd.gw, .int .i64 x.cmd.rev, .slice x.a1 x.cmd.ifs.length x.c1, .slice x.a2 x.cmd.thens.length x.c2, .slice x.a3 x.cmd.elses.length x.c3] ∧ Step [] [] w V2 ∧ RdQ V2 x) := Lib.hid ⟨H1.out.1.step kk (by simp), hU, H1.out.2.trans kk, (HRQ.out.step HK1.out).step kk⟩
   clear hU kk U HRM H1 HK1 HRQ
   have pc := H2.out.2.1.cell
   have p4 := pc 4
   have p5 := pc 5
   have p6 := pc 6
   have p7 := pc 7
   have p10 := pc 10
   have p11 := pc 11
   clear pc
   simp only [List.getElem?_nil, List.getElem?_toArray, List.getElem?_cons_zero, List.getElem?_cons_succ] at p4 p5 p6 p7 p10 p11
   have pl := H2.out.2.1.lt
   have qc := H2.out.1.cell
   have q19 := qc 19
   have q26 := qc 26
   clear qc
   simp only [oqc, List.getElem?_toArray, List.getElem?_cons_zero, List.getElem?_cons_succ] at q19 q26
   have ql := H2.out.1.lt
   go_upto_block 2 with fail
   clear p4 p5 p6 p7 p10 p11 pl
   clear q19 q26 ql
   change Code.wp _ _ _ _ (V2.alloc (.cells #[Str x.text, Str x.cmd.name, Str x.cmd.other, Str x.cmd.word, Str x.cmd.salt, Str x.cmd.gf, Str x.cmd.gt, Str x.ans.token] 9))
   obtain ⟨b2, hb2⟩ : ∃ b2, b2 = V2.heap.size := ⟨_, rfl⟩
   obtain ⟨V3, hV3⟩ : ∃ V3, V3 = V2.alloc (.cells #[Str x.text, Str x.cmd.name, Str x.cmd.other, Str x.cmd.word, Str x.cmd.salt, Str x.cmd.gf, Str x.cmd.gt, Str x.ans.token] 9) := ⟨_, rfl⟩
   have H3 : Hid (Blk V3 b2 9 #[Str x.text, Str x.cmd.name, Str x.cmd.other, Str x.cmd.word, Str x.cmd.salt, Str x.cmd.gf, Str x.cmd.gt, Str x.ans.token] ∧ Step [] [] V2 V3) := Lib.hid (by rw [hV3, hb2]; exact ⟨Blk.new _ _ _, (Step.refl [] V2).alloc _⟩)
   rw [← hV3, ← hb2]
   clear hV3 hb2
   go_cut [] (fun wx => Hid (Step [] [] V2 wx ∧ x.text.length ≤ 10000))
   case first =>
    go_wp2_with fail
    go_loopw [52] (fun i W => ∃ k : Nat, i = .int .i64 k ∧ k ≤ 8 ∧ Hid (W = V3 ∧ ∀ (j : Nat) (t : List UInt8), j < k → (oqT x)[j]? = some t → t.length ≤ 10000)) (fun i _ => 8 - (intOf i).toNat)
    case atStart => exact ⟨0, rfl, by omega, Lib.hid ⟨rfl, by intro j t hj; omega⟩⟩
    case round =>
     rename World => X
     obtain ⟨n, rfl, hn, HX1⟩ := hrel
     obtain ⟨e0, hno⟩ := HX1.out
     subst e0
     have HNO := Lib.hid hno
     clear HX1 hno
     by_cases hln : n < 8
     ·have hln' : (n : Int) < 8 := by omega
      obtain ⟨t, ht⟩ : ∃ t, (oqT x)[n]? = some t := ⟨_, List.getElem?_eq_getElem (show n < (oqT x).length by simp [oqT]; omega)⟩
      have hc : X.cell? ⟨b2, n, none⟩ = some (Str t) := by
       rw [H3.out.1.cell n]
       have hm : (oqT x).map Str = [Str x.text, Str x.cmd.name, Str x.cmd.other, Str x.cmd.word, Str x.cmd.salt, Str x.cmd.gf, Str x.cmd.gt, Str x.ans.token] := rfl
       rw [List.getElem?_toArray, ← hm, List.getElem?_map, ht]
       rfl
      have hbl := H3.out.1.lt
      have HT := Lib.hid ht
      clear ht
      by_cases hg : (10000 : Int) < t.length
      ·go_wp2_with fail
       exact bodyPost_ret (results_tmp rfl _ _ _) rfl ⟨true, rfl, by simp, (H2.out.2.2.1.trans H3.out.2)⟩
      ·have HN := Lib.hid (all_nextQ HNO.out HT.out (show t.length ≤ 10000 by omega))
       go_wp2_with fail
       go_roundw
       case rel => exact ⟨n + 1, by go_num, by omega, Lib.hid ⟨by first | rfl | trivial, HN.out⟩⟩
       case measure => simp [intOf]; omega
     ·have hln' : ¬ (n : Int) < 8 := by omega
      obtain rfl : n = 8 := by omega
      go_wp2_with fail
      go_meet
      exact Lib.hid ⟨H3.out.2, HNO.out 0 x.text (by omega) rfl⟩
   case rest =>
    rename World => V4
    have H4 : Hid (Step [] [] V2 V4 ∧ x.text.length ≤ 10000) := hcut
    clear hcut H3
    have pc := (H2.out.2.1.step H4.out.1 (by simp)).cell
    have p15 := pc 15
    have p16 := pc 16
    have p17 := pc 17
    clear pc
    simp only [List.getElem?_nil, List.getElem?_toArray, List.getElem?_cons_zero, List.getElem?_cons_succ] at p15 p16 p17
    have pl := (H2.out.2.1.step H4.out.1 (by simp)).lt
    have qc := (H2.out.1.step H4.out.1 (by simp)).cell
    have q25 := qc 25
    clear qc
    simp only [oqc, List.getElem?_toArray, List.getElem?_cons_zero, List.getElem?_cons_succ] at q25
    have ql := (H2.out.1.step H4.out.1 (by simp)).lt
    by_cases g0 : (30 : Int) < x.cmd.ifs.length
    ·go_wp2_with fail
     exact bodyPost_ret (results_tmp rfl _ _ _) rfl ⟨true, rfl, by simp, (H2.out.2.2.1.trans H4.out.1)⟩
    have g0d : decide ((30 : Int) < x.cmd.ifs.length) = false := decide_eq_false g0
    by_cases g1 : (30 : Int) < x.cmd.thens.length
    ·go_wp2_with fail
     exact bodyPost_ret (results_tmp rfl _ _ _) rfl ⟨true, rfl, by simp, (H2.out.2.2.1.trans H4.out.1)⟩
    have g1d : decide ((30 : Int) < x.cmd.thens.length) = false := decide_eq_false g1
    by_cases g2 : (30 : Int) < x.cmd.elses.length
    ·go_wp2_with fail
     exact bodyPost_ret (results_tmp rfl _ _ _) rfl ⟨true, rfl, by simp, (H2.out.2.2.1.trans H4.out.1)⟩
    have g2d : decide ((30 : Int) < x.cmd.elses.length) = false := decide_eq_false g2
    by_cases g3 : (20 : Int) < x.m.length
    ·go_wp2_with fail
     exact bodyPost_ret (results_tmp rfl _ _ _) rfl ⟨true, rfl, by simp, (H2.out.2.2.1.trans H4.out.1)⟩
    have g3d : decide ((20 : Int) < x.m.length) = false := decide_eq_false g3
    have hi3 : x.cmd.ifs.length ≤ 30 := by omega
    have ht3 : x.cmd.thens.length ≤ 30 := by omega
    have he3 : x.cmd.elses.length ≤ 30 := by omega
    have hm3 : x.m.length ≤ 20 := by omega
    clear g0 g1 g2 g3
    go_upto_block 4 with fail
    clear g0d g1d g2d g3d
    clear p15 p16 p17 pl
    clear q25 ql
    change Code.wp _ _ _ _ (V4.alloc (.cells #[.slice x.a2 x.cmd.thens.length x.c2, .slice x.a3 x.cmd.elses.length x.c3] 42))
    obtain ⟨b3, hb3⟩ : ∃ b3, b3 = V4.heap.size := ⟨_, rfl⟩
    obtain ⟨V5, hV5⟩ : ∃ V5, V5 = V4.alloc (.cells #[.slice x.a2 x.cmd.thens.length x.c2, .slice x.a3 x.cmd.elses.length x.c3] 42) := ⟨_, rfl⟩
    have H5 : Hid (Blk V5 b3 42 #[.slice x.a2 x.cmd.thens.length x.c2, .slice x.a3 x.cmd.elses.length x.c3] ∧ Step [] [] V2 V5) := Lib.hid (by rw [hV5, hb3]; exact ⟨Blk.new _ _ _, H4.out.1.alloc _⟩)
    rw [← hV5, ← hb3]
    clear hV5 hb3
    go_cut [] (fun wx => Hid (Step [] [] V2 wx))
    case first =>
     go_wp2_with fail
     go_loopw [89] (fun i X => ∃ n : Nat, i = .int .i64 n ∧ n ≤ 2 ∧ Hid (Step [] [] V5 X)) (fun i _ => 2 - (intOf i).toNat)
     case atStart => exact ⟨0, rfl, by omega, Lib.hid (Step.refl _ _)⟩
     case round =>
      rename World => X
      obtain ⟨n, rfl, hn, HX1⟩ := hrel
      by_cases hln : n < 2
      ·have hln' : (n : Int) < 2 := by omega
       obtain ⟨dl, al, cl, hc, hr, hll⟩ : ∃ (dl : List Da) (al : Option Addr) (cl : Nat), X.cell? ⟨b3, n, none⟩ = some (.slice al dl.length cl) ∧ Rd X 7 al dl.length (dacs dl) ∧ dl.length ≤ 30 := by
        have hb := H5.out.1.step HX1.out (by simp)
        have hs := H2.out.2.2.2.rc.step (H5.out.2.trans HX1.out)
        have h0 := hb.cell 0
        have h1 := hb.cell 1
        simp only [List.getElem?_toArray, List.getElem?_cons_zero, List.getElem?_cons_succ] at h0 h1
        have hk2 : n = 0 ∨ n = 1 := by omega
        rcases hk2 with rfl | rfl
        ·exact ⟨x.cmd.thens, x.a2, x.c2, h0, hs.t, ht3⟩
        ·exact ⟨x.cmd.elses, x.a3, x.c3, h1, hs.e, he3⟩
       have hbl := (H5.out.1.step HX1.out (by simp)).lt
       have HRD := Lib.hid hr
       clear hr
       go_wp2_with fail
       clear hc
       go_loopw [95] (fun i U => ∃ q : Nat, i = .int .i64 q ∧ q ≤ dl.length ∧ Hid (Step [] [] X U)) (fun i _ => dl.length - (intOf i).toNat)
       case atStart => exact ⟨0, rfl, by omega, Lib.hid (Step.refl _ _)⟩
       case round =>
        rename World => U
        obtain ⟨q, rfl, hq, HU⟩ := hrel
        by_cases hlq : q < dl.length
        ·have hlq' : (q : Int) < dl.length := by omega
         obtain ⟨d, hd⟩ : ∃ d, dl[q]? = some d := ⟨_, List.getElem?_eq_getElem hlq⟩
         have r1 := HRD.out.step0 HU.out
         obtain ⟨gd, od, hsa⟩ := r1.some_ (by omega)
         subst hsa
         have cd := rd_da r1 hd
         have gl : gd < U.heap.size := by have := World.block_lt_of_cell? _ _ cd.1; simpa using this
         clear hd r1
         by_cases u0 : (1000 : Int) < d.key.length
         ·go_wp2_with fail
          exact bodyPost_ret (results_tmp rfl _ _ _) rfl ⟨true, rfl, by simp, ((((H2.out.2.2.1.trans H5.out.2).trans HX1.out).trans HU.out).alloc _)⟩
         have u0d : decide ((1000 : Int) < d.key.length) = false := decide_eq_false u0
         by_cases u1 : (1000 : Int) < d.val.length
         ·go_wp2_with fail
          exact bodyPost_ret (results_tmp rfl _ _ _) rfl ⟨true, rfl, by simp, ((((H2.out.2.2.1.trans H5.out.2).trans HX1.out).trans HU.out).alloc _)⟩
         have u1d : decide ((1000 : Int) < d.val.length) = false := decide_eq_false u1
         by_cases u2 : (1000 : Int) < d.fr.length
         ·go_wp2_with fail
          exact bodyPost_ret (results_tmp rfl _ _ _) rfl ⟨true, rfl, by simp, ((((H2.out.2.2.1.trans H5.out.2).trans HX1.out).trans HU.out).alloc _)⟩
         have u2d : decide ((1000 : Int) < d.fr.length) = false := decide_eq_false u2
         by_cases u3 : (1000 : Int) < d.to_.length
         ·go_wp2_with fail
          exact bodyPost_ret (results_tmp rfl _ _ _) rfl ⟨true, rfl, by simp, ((((H2.out.2.2.1.trans H5.out.2).trans HX1.out).trans HU.out).alloc _)⟩
         have u3d : decide ((1000 : Int) < d.to_.length) = false := decide_eq_false u3
         go_wp2_with fail
         go_roundw
         case rel => exact ⟨q + 1, by go_num, by omega, Lib.hid (HU.out.alloc _)⟩
         case measure => simp [intOf]; omega
        ·have hlq' : ¬ (q : Int) < dl.length := by omega
         obtain rfl : q = dl.length := by omega
         go_wp2_with fail
         go_roundw
         case rel => exact ⟨n + 1, by go_num, by omega, Lib.hid (HX1.out.trans HU.out)⟩
         case measure => simp [intOf]; omega
      ·have hln' : ¬ (n : Int) < 2 := by omega
       obtain rfl : n = 2 := by omega
       go_wp2_with fail
       go_meet
       exact Lib.hid (H5.out.2.trans HX1.out)
    case rest =>
     rename World => V6
     have H6 : Hid (Step [] [] V2 V6) := hcut
     clear hcut H5
     have pc := (H2.out.2.1.step H6.out (by simp)).cell
     have p15 := pc 15
     clear pc
     simp only [List.getElem?_nil, List.getElem?_toArray, List.getElem?_cons_zero, List.getElem?_cons_succ] at p15
     have pl := (H2.out.2.1.step H6.out (by simp)).lt
     go_upto_block 8 with fail
     clear p15 pl
     go_cut [] (fun wx => Hid (Step [] [] V2 wx))
     case first =>
      go_wp2_with fail
      go_loopw [128] (fun i X => ∃ n : Nat, i = .int .i64 n ∧ n ≤ x.cmd.ifs.length ∧ Hid (Step [] [] V2 X)) (fun i _ => x.cmd.ifs.length - (intOf i).toNat)
      case atStart => exact ⟨0, rfl, by omega, H6⟩
      case round =>
       rename World => X
       obtain ⟨n, rfl, hn, HX1⟩ := hrel
       by_cases hln : n < x.cmd.ifs.length
       ·have hln' : (n : Int) < x.cmd.ifs.length := by omega
        obtain ⟨d, hd⟩ : ∃ d, x.cmd.ifs[n]? = some d := ⟨_, List.getElem?_eq_getElem hln⟩
        have r1 := H2.out.2.2.2.rc.i.step0 HX1.out
        obtain ⟨gd, od, hsa⟩ := r1.some_ (by omega)
        rw [hsa] at r1
        have cd := rd_cp r1 hd
        have gl : gd < X.heap.size := by have := World.block_lt_of_cell? _ _ cd.1; simpa using this
        have HSB := Lib.hid hsa
        rw [hsa]
        clear hd r1 hsa
        by_cases u0 : (1000 : Int) < d.key.length
        ·go_wp2_with fail
         exact bodyPost_ret (results_tmp rfl _ _ _) rfl ⟨true, rfl, by simp, ((H2.out.2.2.1.trans HX1.out).alloc _)⟩
        have u0d : decide ((1000 : Int) < d.key.length) = false := decide_eq_false u0
        by_cases u1 : (1000 : Int) < d.val.length
        ·go_wp2_with fail
         exact bodyPost_ret (results_tmp rfl _ _ _) rfl ⟨true, rfl, by simp, ((H2.out.2.2.1.trans HX1.out).alloc _)⟩
        have u1d : decide ((1000 : Int) < d.val.length) = false := decide_eq_false u1
        go_wp2_with fail
        go_roundw
        case rel => exact ⟨n + 1, by go_num, by omega, Lib.hid (HX1.out.alloc _)⟩
        case measure => simp [intOf]; omega
       ·have hln' : ¬ (n : Int) < x.cmd.ifs.length := by omega
        obtain rfl : n = x.cmd.ifs.length := by omega
        go_wp2_with fail
        go_meet
        exact HX1
     case rest =>
      rename World => V7
      have H7 : Hid (Step [] [] V2 V7) := hcut
      clear hcut H6
      have qc := (H2.out.1.step H7.out (by simp)).cell
      have q25 := qc 25
      clear qc
      simp only [oqc, List.getElem?_toArray, List.getElem?_cons_zero, List.getElem?_cons_succ] at q25
      have ql := (H2.out.1.step H7.out (by simp)).lt
      go_wp2_with fail
      clear q25 ql
      go_loopw [147] (fun i X => ∃ n : Nat, i = .int .i64 n ∧ n ≤ x.m.length ∧ Hid (Step [] [] V2 X ∧ ∀ (j : Nat) (d : Om), j < n → x.m[j]? = some d → d.o.pairs.length ≤ 50)) (fun i _ => x.m.length - (intOf i).toNat)
      case atStart => exact ⟨0, rfl, by omega, Lib.hid ⟨H7.out, by intro j t hj; omega⟩⟩
      case round =>
       rename World => X
       obtain ⟨n, rfl, hn, HX1⟩ := hrel
       by_cases hln : n < x.m.length
       ·have hln' : (n : Int) < x.m.length := by omega
        obtain ⟨d, hd⟩ : ∃ d, x.m[n]? = some d := ⟨_, List.getElem?_eq_getElem hln⟩
        have HRO := Lib.hid (H2.out.2.2.2.ro.step HX1.out.1)
        have r1 := HRO.out.row
        obtain ⟨gd, od, hsa⟩ := r1.some_ (by omega)
        rw [hsa] at r1
        have cd := rd_om r1 hd
        have gl : gd < X.heap.size := by have := World.block_lt_of_cell? _ _ cd.1; simpa using this
        have HSB := Lib.hid hsa
        have HD := Lib.hid hd
        rw [hsa]
        clear hd r1 hsa
        by_cases u0 : (50 : Int) < d.o.pairs.length
        ·go_wp2_with fail
         exact bodyPost_ret (results_tmp rfl _ _ _) rfl ⟨true, rfl, by simp, ((H2.out.2.2.1.trans HX1.out.1).alloc _)⟩
        have u0d : decide ((50 : Int) < d.o.pairs.length) = false := decide_eq_false u0
        have HN := Lib.hid (all_nextQ HX1.out.2 HD.out (show d.o.pairs.length ≤ 50 by omega))
        have hp50 : d.o.pairs.length ≤ 50 := by omega
        have HRP := Lib.hid (HRO.out.prs d (List.mem_of_getElem? HD.out))
        clear u0
        go_wp2_with fail
        clear u0d cd gl
        obtain ⟨X2, hX2⟩ : ∃ Y, Y = X.alloc (.cells #[.slice d.a d.o.pairs.length d.c, .bool d.o.more, .int .i64 d.o.count] 113) := ⟨_, rfl⟩
        have HX2 : Hid (Step [] [] X X2) := Lib.hid (by rw [hX2]; exact (Step.refl [] X).alloc _)
        rw [← hX2]
        clear hX2
        go_loopw [158] (fun i U => ∃ q : Nat, i = .int .i64 q ∧ q ≤ d.o.pairs.length ∧ Hid (Step [] [] X2 U)) (fun i _ => d.o.pairs.length - (intOf i).toNat)
        case atStart => exact ⟨0, rfl, by omega, Lib.hid (Step.refl _ _)⟩
        case round =>
         rename World => U
         obtain ⟨q, rfl, hq, HU⟩ := hrel
         by_cases hlq : q < d.o.pairs.length
         ·have hlq' : (q : Int) < d.o.pairs.length := by omega
          obtain ⟨e, he⟩ : ∃ e, d.o.pairs[q]? = some e := ⟨_, List.getElem?_eq_getElem hlq⟩
          have r1 := HRP.out.step0 (HX2.out.trans HU.out)
          obtain ⟨ge, oe, hsa⟩ := r1.some_ (by omega)
          rw [hsa] at r1
          have cd := rd_pr r1 he
          have gl : ge < U.heap.size := by have := World.block_lt_of_cell? _ _ cd.1; simpa using this
          have HSC := Lib.hid hsa
          rw [hsa]
          clear he r1 hsa
          by_cases u1 : (1000 : Int) < e.key.length
          ·go_wp2_with fail
           exact bodyPost_ret (results_tmp rfl _ _ _) rfl ⟨true, rfl, by simp, ((((H2.out.2.2.1.trans HX1.out.1).trans HX2.out).trans HU.out).alloc _)⟩
          have u1d : decide ((1000 : Int) < e.key.length) = false := decide_eq_false u1
          by_cases u2 : (1000 : Int) < e.val.length
          ·go_wp2_with fail
           exact bodyPost_ret (results_tmp rfl _ _ _) rfl ⟨true, rfl, by simp, ((((H2.out.2.2.1.trans HX1.out.1).trans HX2.out).trans HU.out).alloc _)⟩
          have u2d : decide ((1000 : Int) < e.val.length) = false := decide_eq_false u2
          go_wp2_with fail
          go_roundw
          case rel => exact ⟨q + 1, by go_num, by omega, Lib.hid (HU.out.alloc _)⟩
          case measure => simp [intOf]; omega
         ·have hlq' : ¬ (q : Int) < d.o.pairs.length := by omega
          obtain rfl : q = d.o.pairs.length := by omega
          go_wp2_with fail
          go_roundw
          case rel => exact ⟨n + 1, by go_num, by omega, Lib.hid ⟨(HX1.out.1.trans HX2.out).trans HU.out, HN.out⟩⟩
          case measure => simp [intOf]; omega
       ·have hln' : ¬ (n : Int) < x.m.length := by omega
        obtain rfl : n = x.m.length := by omega
        have HN := Lib.hid (all_nextQ HW.out.2 HX.out (show SmQ x from ⟨H4.out.2, hi3, ht3, he3, hm3, all_atQ HX1.out.2⟩))
        go_wp2_with fail
        go_roundw
        case rel => exact ⟨k + 1, by go_num, by omega, Lib.hid ⟨H2.out.2.2.1.trans HX1.out.1, HN.out⟩⟩
        case measure => simp [intOf]; omega
  ·obtain rfl : k = l.length := by omega
   go_wp2_with fail
   exact bodyPost_ret (results_tmp rfl _ _ _) rfl ⟨false, rfl, fun _ => ⟨h3, all_atQ HW.out.2⟩, HW.out.1⟩
end Go.Proofs.Ytjfaplmojpldhaa
