/-
 The reference's AnswerBytes. Condition: at most 2^21 outs and pairs, ints, texts of at most 2^49 bytes.
-/
import Derived.Test.YtjfaplmojpldhaaZGB
import Derived.Test.YtjfaplmojpldhaaZAnsEnc
import Derived.Test.YtjfaplmojpldhaaZReqU
namespace Go.Proofs.Ytjfaplmojpldhaa
open Go.RowKit
set_option linter.unusedSimpArgs false
set_option linter.unusedVariables false
set_option maxRecDepth 100000

def omIts (d : Om) : List It := otIts d.o
theorem ansIts_om (x : An) (m : List Om) (h : m.map (·.o) = x.outs) : ([nI x.client, nI x.seq, nI x.err, nI x.rev, fI x.yes, nI m.length] ++ m.flatMap omIts) ++ [tI x.token] = ansIts x := by
 have hl : m.length = x.outs.length := by rw [← h, List.length_map]
 have hf : m.flatMap omIts = x.outs.flatMap otIts := by rw [← h, List.flatMap_map]; rfl
 rw [hl, hf]
 simp [ansIts, otsIts]
theorem om_step (m : List Om) (k : Nat) (d : Om) (h : m[k]? = some d) : (m.take (k + 1)).flatMap omIts = (m.take k).flatMap omIts ++ omIts d := by simp [List.take_add_one, h]
theorem pr_step (l : List Pr) (k : Nat) (d : Pr) (h : l[k]? = some d) : (l.take (k + 1)).flatMap prIts = (l.take k).flatMap prIts ++ prIts d := by simp [List.take_add_one, h]
theorem om_its (x : An) (m : List Om) (h : m.map (·.o) = x.outs) (ht : (ansIts x).length ≤ 16777216) (k : Nat) : ((m.take k).flatMap omIts).length + 7 ≤ 16777216 := by
 have h1 := congrArg List.length (ansIts_om x m h)
 have h2 : (m.flatMap omIts) = (m.take k).flatMap omIts ++ (m.drop k).flatMap omIts := by rw [← List.flatMap_append, List.take_append_drop]
 rw [h2] at h1
 simp only [List.length_append, List.length_cons, List.length_nil] at h1
 omega
theorem pr_its (m : List Om) (k : Nat) (d : Om) (hd : m[k]? = some d) : ((m.take k).flatMap omIts).length + 3 + 4 * d.o.pairs.length ≤ ((m.take (k + 1)).flatMap omIts).length := by
 have h4 : ∀ l : List Pr, (l.flatMap prIts).length = 4 * l.length := by
  intro l
  induction l with
  | nil => rfl
  | cons p l ih => rw [List.flatMap_cons, List.length_append, ih, List.length_cons]; simp only [prIts, List.length_cons, List.length_nil]; omega
 rw [om_step m k d hd, List.length_append]
 simp only [omIts, otIts, List.length_cons, List.length_append, h4, List.length_nil]
 omega
theorem Il.with {V W : World} {a : Option Addr} {n c b : Nat} {l : List It} {T : TypeId} {cs : Array Value} (h : Il V W a n c l) (hb : Blk V b T cs) : Ib V W b T cs a n c l :=
 ⟨hb.step h.st (by simp), h.row, h.st, fun hm => by rcases h.st.fresh b hm with q | q; cases q; have := hb.lt; omega⟩
theorem Ib.freshA {w W : World} {b : Nat} {T : TypeId} {cs : Array Value} (h : Blk w b T cs) (k : Step [] [] w W) (l : List It) (hl : l.length ≤ 1000) : Ib w (W.alloc (.cells (itcs l).toArray 88)) b T cs (some ⟨W.heap.size, 0, none⟩) l.length l.length l :=
 ⟨(h.step k (by simp)).alloc _, row_blk' (Blk.new W _ _) 4 l.length (itcs_len l) (by unfold maxLen; omega), (k.hold _).drop (by simp [blks]), by simp [blks]; have := h.lt; have := k.size; omega⟩
theorem ansIts_oks (x : An) (h : AnB x) (hL : LenA x) : ∀ i ∈ ansIts x, i.ok := by
 have hN : ∀ n : Int, n < 9223372036854775808 → (nI n).ok := fun n h => by simp [It.ok, nI]; omega
 have hF : ∀ b : Bool, (fI b).ok := fun b => by simp [It.ok, fI]
 have hT : ∀ s : List UInt8, s.length ≤ 562949953421312 → (tI s).ok := fun s h => by simp [It.ok, tI]; omega
 intro y hy
 have h1 := hL.o
 simp only [ansIts, otsIts, otIts, prIts, List.mem_cons, List.mem_append, List.mem_flatMap, List.not_mem_nil, or_false] at hy
 rcases hy with rfl | rfl | rfl | rfl | rfl | (rfl | ⟨o, ho, rfl | ⟨p, hp, rfl | rfl | rfl | rfl⟩ | rfl | rfl⟩) | rfl
 ·exact hN _ h.client
 ·exact hN _ h.seq
 ·exact hN _ h.err
 ·exact hN _ h.rev
 ·exact hF _
 ·exact hN _ (by omega)
 ·exact hN _ (by have := hL.p o ho; omega)
 ·exact hT _ ((h.outs o ho).prs p hp).key
 ·exact hT _ ((h.outs o ho).prs p hp).val
 ·exact hN _ ((h.outs o ho).prs p hp).made
 ·exact hN _ ((h.outs o ho).prs p hp).rev
 ·exact hF _
 ·exact hN _ (h.outs o ho).count
 ·exact hT _ h.token
def RefAP (x : An) (w : World) (e : Ending) (w' : World) : Prop := e = .returned (.tuple #[Str (refAB x).1, .int .i64 (refAB x).2]) ∧ Step [] [] w w'
section
variable {u0 u1 u2 u3 u4 u5 u6 u7 u8 u9 u10 u11 u12 u13 u14 u15 u16 u17 u18 u19 u20 u21 u22 u23 u24 u25 u26 u27 u28 u29 u30 u31 u32 u33 u34 u35 u36 u37 u38 u39 u40 u41 u42 u43 u44 u45 u46 u47 u48 u49 u50 u51 u52 u53 u54 u55 u56 u57 u58 u59 u60 u61 u62 u63 u64 u65 u66 u67 u68 u69 u70 u71 u72 u73 u74 u75 u76 u77 u78 u79 u80 u81 u82 u83 u84 u85 u86 u87 u88 u89 u90 u91 u92 u93 u94 u95 u96 u97 u98 u99 u100 u101 u102 u103 u104 u105 u106 u107 u108 u109 u110 u111 u112 u113 u114 u115 u116 u117 u118 u119 u120 u121 u122 u123 u124 u125 u126 u127 u128 u129 u130 u131 u132 u133 u134 u135 u136 u137 u138 u139 u140 u141 u142 u143 u144 u145 u146 u147 u148 u149 u150 u151 u152 u153 u154 u155 u156 u157 u158 u159 u160 : Value}
set_option maxHeartbeats 16000000 in
theorem ab5 {w V W : World} {x : An} {m : List Om} {a : Option Addr} {c b : Nat} {q9 : Option Addr} {n9 c9 : Nat} {L9 : List It} (HE : Hid (EaH w V x m a)) (HB : Hid (Blk V b 54 (anc x (.slice a m.length c)).toArray)) (HH : Hid (okHead x = true)) (HT : Hid ((ansIts x).length ≤ 16777216)) (hn9 : n9 ≤ 16777217) (HIT : Hid (L9 = ansIts x)) (H : Hid (Ib V W b 54 (anc x (.slice a m.length c)).toArray q9 n9 c9 L9)) :
  Code.wp Try.prog (eright 5 (Try.f41.body.getD .skip)) (bodyPost Try.prog Try.f41 (RefAP x w)) { tmps := #[u0, .pointer (some ⟨b, 0, none⟩), u2, u3, .slice q9 n9 c9, u5, u6, u7, u8, u9, u10, u11, u12, u13, u14, u15, u16, u17, u18, u19, u20, u21, u22, u23, u24, u25, u26, u27, u28, u29, u30, u31, u32, u33, u34, u35, u36, u37, u38, u39, u40, u41, u42, u43, u44, u45, u46, u47, u48, u49, u50, u51, u52, u53, u54, u55, u56, u57, u58, u59, u60, u61, u62, u63, u64, u65, u66, u67, u68, u69, u70, u71, u72, u73, u74, u75, u76, u77, u78, u79, u80, u81, u82, u83, u84, u85, u86, u87, u88, u89, u90, u91, u92, u93, u94, u95, u96, u97, u98, u99, u100, u101, u102, u103, u104, u105, u106, u107, u108, u109, u110, u111, u112, u113, u114, u115, u116, u117, u118, u119, u120, u121, u122, u123, u124, u125, u126, u127, u128, u129, u130, u131, u132, u133, u134, u135, u136, u137, u138, u139, u140, u141, u142, u143, u144, u145, u146, u147, u148, u149, u150, u151, u152, u153, u154, u155, u156, u157, u158, u159, u160], defers := [] } W := by
 conv => arg 2; whnf
 dsimp only
 have hle := H.out.il.len
 have HLE := Lib.hid hle
 clear hle
 go_upto_block 4 with fail
 go_cut [] (fun wx => Hid (Ib V wx b 54 (anc x (.slice a m.length c)).toArray q9 n9 c9 L9 ∧ L9.any badI = false))
 case first =>
  go_wp2_with fail
  go_loopw [8] (fun i W0 => ∃ k : Nat, k ≤ n9 ∧ i = .int .i64 k ∧ Hid (W0 = W ∧ (L9.take k).any badI = false)) (fun i _ => n9 - (intOf i).toNat)
  case atStart => exact ⟨0, by omega, rfl, Lib.hid ⟨rfl, by simp⟩⟩
  case round =>
   rename World => W0
   obtain ⟨k, hk, rfl, HW⟩ := hrel
   obtain ⟨ew, hno⟩ := HW.out
   subst ew
   have HNO := Lib.hid hno
   clear HW hno
   by_cases hlt : k < n9
   ·have hlt' : (k : Int) < n9 := by omega
    obtain ⟨q, hq⟩ : ∃ q, L9[k]? = some q := ⟨_, List.getElem?_eq_getElem (by rw [← HLE.out]; exact hlt)⟩
    have hrd := H.out.row.rd
    obtain ⟨g, off, hsa⟩ := hrd.some_ (by omega)
    subst hsa
    have ci := rd_item hrd hq
    have gl := World.block_lt_of_cell? _ _ ci.1
    simp only at gl
    have HX := Lib.hid hq
    clear hq hrd
    by_cases u0 : q.k = 0
    ·have u0d : (q.k == 0) = true := by simp [u0]
     by_cases u1 : q.n < 0
     ·have HBI : Hid (badI q = true) := Lib.hid (by simp [badI, u0, u1])
      clear u0
      have HV : Hid (refAB x = ([], 1)) := Lib.hid (by rw [refAB, if_neg (by rw [HH.out]; simp), if_pos (by rw [← HIT.out]; exact List.any_eq_true.2 ⟨q, List.mem_of_getElem? HX.out, HBI.out⟩)])
      go_wp2_with fail
      exact bodyPost_ret (results_tmp2 rfl _ _ _) rfl ⟨by rw [HV.out]; rfl, (HE.out.st.trans (H.out.st.drop (by simp)))⟩
     ·have u1d : decide (q.n < 0) = false := decide_eq_false u1
      by_cases u2 : (4611686018427387903 : Int) < q.n
      ·have HBI : Hid (badI q = true) := Lib.hid (by simp [badI, u0, u2])
       clear u0
       have HV : Hid (refAB x = ([], 1)) := Lib.hid (by rw [refAB, if_neg (by rw [HH.out]; simp), if_pos (by rw [← HIT.out]; exact List.any_eq_true.2 ⟨q, List.mem_of_getElem? HX.out, HBI.out⟩)])
       go_wp2_with fail
       exact bodyPost_ret (results_tmp2 rfl _ _ _) rfl ⟨by rw [HV.out]; rfl, (HE.out.st.trans (H.out.st.drop (by simp)))⟩
      ·have u2d : decide ((4611686018427387903 : Int) < q.n) = false := decide_eq_false u2
       have HNN : Hid ((L9.take (k + 1)).any badI = false) := Lib.hid (by rw [takeQ_any _ _ _ _ HX.out, HNO.out, Bool.false_or]; simp [badI]; omega)
       clear u0 u1 u2
       go_wp2_with fail
       go_roundw
       case rel => exact ⟨k + 1, by omega, by go_num, Lib.hid ⟨by first | rfl | trivial, HNN.out⟩⟩
       case measure => simp [intOf]; omega
    ·have u0d : (q.k == 0) = false := by simp [u0]
     have HNN : Hid ((L9.take (k + 1)).any badI = false) := Lib.hid (by rw [takeQ_any _ _ _ _ HX.out, HNO.out, Bool.false_or]; simp [badI, u0])
     clear u0
     go_wp2_with fail
     go_roundw
     case rel => exact ⟨k + 1, by omega, by go_num, Lib.hid ⟨by first | rfl | trivial, HNN.out⟩⟩
     case measure => simp [intOf]; omega
   ·have hnl : ¬ (k : Int) < n9 := by omega
    obtain rfl : k = n9 := by omega
    go_wp2_with fail
    go_meet
    exact Lib.hid ⟨H.out, by have hz := HNO.out; rw [List.take_of_length_le (by rw [← HLE.out]; exact Nat.le_refl _)] at hz; exact hz⟩
 case rest =>
  rename World => Vz
  have HZ := hcut
  clear hcut
  have HWR : Hid (refAB x = written [] (ansIts x)) := Lib.hid (by rw [refAB, if_neg (by rw [HH.out]; simp), if_neg (by rw [← HIT.out, HZ.out.2]; simp)])
  have hw := written_any L9 q9 c9 Vz (by rw [← HLE.out]; omega) (by have hz := HZ.out.1.row.rd; rw [HLE.out] at hz; exact hz) (by rw [HIT.out]; exact ansIts_oks x HE.out.bd HE.out.ln)
  rw [← HLE.out] at hw
  go_wp2_with fail
  refine hw.mono ?_
  rintro e Y9 ⟨rfl, kk⟩
  have H9 : Hid (Step [] [] w Y9) := Lib.hid ((HE.out.st.trans (HZ.out.1.st.drop (by simp))).trans kk)
  clear kk hw
  rw [HIT.out, ← HWR.out]
  go_wp2_with fail
  exact bodyPost_ret (results_tmp2 rfl _ _ _) rfl ⟨rfl, H9.out⟩
set_option maxHeartbeats 16000000 in
theorem ab4 {w V W : World} {x : An} {m : List Om} {a : Option Addr} {c b : Nat} {q4 : Option Addr} {n4 c4 : Nat} (HE : Hid (EaH w V x m a)) (HB : Hid (Blk V b 54 (anc x (.slice a m.length c)).toArray)) (HH : Hid (okHead x = true)) (HT : Hid ((ansIts x).length ≤ 16777216)) (hn4 : n4 ≤ 16777216) (H : Hid (Ib V W b 54 (anc x (.slice a m.length c)).toArray q4 n4 c4 ([nI x.client, nI x.seq, nI x.err, nI x.rev, fI x.yes, nI m.length] ++ m.flatMap omIts))) :
  Code.wp Try.prog (eright 4 (Try.f41.body.getD .skip)) (bodyPost Try.prog Try.f41 (RefAP x w)) { tmps := #[u0, .pointer (some ⟨b, 0, none⟩), u2, u3, .slice q4 n4 c4, u5, u6, u7, u8, u9, u10, u11, u12, u13, u14, u15, u16, u17, u18, u19, u20, u21, u22, u23, u24, u25, u26, u27, u28, u29, u30, u31, u32, u33, u34, u35, u36, u37, u38, u39, u40, u41, u42, u43, u44, u45, u46, u47, u48, u49, u50, u51, u52, u53, u54, u55, u56, u57, u58, u59, u60, u61, u62, u63, u64, u65, u66, u67, u68, u69, u70, u71, u72, u73, u74, u75, u76, u77, u78, u79, u80, u81, u82, u83, u84, u85, u86, u87, u88, u89, u90, u91, u92, u93, u94, u95, u96, u97, u98, u99, u100, u101, u102, u103, u104, u105, u106, u107, u108, u109, u110, u111, u112, u113, u114, u115, u116, u117, u118, u119, u120, u121, u122, u123, u124, u125, u126, u127, u128, u129, u130, u131, u132, u133, u134, u135, u136, u137, u138, u139, u140, u141, u142, u143, u144, u145, u146, u147, u148, u149, u150, u151, u152, u153, u154, u155, u156, u157, u158, u159, u160], defers := [] } W := by
 conv => arg 2; whnf
 dsimp only
 obtain ⟨i0, hi, hz0, hz1, hz2⟩ := info_parts Try.info_item
 have HI := Lib.hid (And.intro hi (And.intro hz0 (And.intro hz1 hz2)))
 clear hi hz0 hz1 hz2
 go_upto_region 14 with fail
 go_cut [4] (fun v wx => ∃ (q : Option Addr) (n cq : Nat) (L : List It), v = .slice q n cq ∧ n ≤ 16777217 ∧ Hid (L = ansIts x) ∧ Hid (Ib V wx b 54 (anc x (.slice a m.length c)).toArray q n cq L))
 case first =>
  have pc := H.out.blk.cell
  have p6 := pc 6
  clear pc
  simp only [anc, List.getElem?_toArray, List.getElem?_cons_zero, List.getElem?_cons_succ] at p6
  have pl := H.out.blk.lt
  go_wp2_with fail
  refine (rtx_any x.token _).mono ?_
  rintro e X1 ⟨rfl, kk⟩
  have C1 := Lib.hid (H.out.quiet kk)
  clear kk p6 pl
  obtain ⟨g2, hg⟩ : ∃ g, g = X1.heap.size := ⟨_, rfl⟩
  obtain ⟨Y2, hW⟩ : ∃ Y, Y = X1.alloc (.cells #[.int .i64 1, .int .i64 0, .string ⟨x.token.toArray⟩, .bool false] 88) := ⟨_, rfl⟩
  have B2 : Hid (Ib V Y2 b 54 (anc x (.slice a m.length c)).toArray q4 n4 c4 ([nI x.client, nI x.seq, nI x.err, nI x.rev, fI x.yes, nI m.length] ++ m.flatMap omIts) ∧ Rd Y2 4 (some ⟨g2, 0, none⟩) 1 (itcs [tI x.token])) := Lib.hid (by rw [hW, hg]; exact ⟨C1.out.alloc _, rd_blk' (xs := itcs [tI x.token]) (Blk.new X1 88 _) 4 1 rfl⟩)
  have HY2 := Lib.hid hW
  have HG2 := Lib.hid hg
  clear hW hg
  go_wp2_with (at_builtin; rw [show X1.heap.size = g2 from HG2.out.symm, show X1.alloc (.cells #[.int .i64 1, .int .i64 0, .string ⟨x.token.toArray⟩, .bool false] 88) = Y2 from HY2.out.symm]; refine wpList_append_row rfl (.tmp 123) (.tmp 127) 89 89 rfl 88 i0 _ 4 40 Try.underlying89 HI.out.1 HI.out.2.1 HI.out.2.2.1 HI.out.2.2.2 rfl rfl B2.out.1.row rfl (Src.rd (n := 1) 89 88 Try.underlying89 B2.out.2 (itcs_one _)) (by unfold maxLen; omega) (by omega) (by omega) ?_; intro a2 c2 w2 hr st; have A2 : Hid (Ib V w2 b 54 (anc x (.slice a m.length c)).toArray a2 (n4 + 1) c2 (([nI x.client, nI x.seq, nI x.err, nI x.rev, fI x.yes, nI m.length] ++ m.flatMap omIts) ++ [tI x.token])) := Lib.hid (B2.out.1.app hr st); clear hr st)
  clear HY2 HG2 C1 B2
  go_meet
  exact ⟨_, _, _, (([nI x.client, nI x.seq, nI x.err, nI x.rev, fI x.yes, nI m.length] ++ m.flatMap omIts) ++ [tI x.token]), rfl, by omega, Lib.hid (ansIts_om x m HE.out.outs), A2⟩
 case rest =>
  rename World => Y
  obtain ⟨q9, n9, c9, L9, rfl, hn9, HIT, H9⟩ := hcut
  rename ∀ (a : Act) (w : World), Code.wp _ _ _ a w → _ => hK
  refine hK _ _ ?_
  exact ab5 HE HB HH HT hn9 HIT H9
set_option maxHeartbeats 16000000 in
theorem ab3 {w V W : World} {x : An} {m : List Om} {a : Option Addr} {c b : Nat} {q3 : Option Addr} {c3 : Nat} (HE : Hid (EaH w V x m a)) (HB : Hid (Blk V b 54 (anc x (.slice a m.length c)).toArray)) (HH : Hid (okHead x = true)) (HT : Hid ((ansIts x).length ≤ 16777216)) (H : Hid (Ib V W b 54 (anc x (.slice a m.length c)).toArray q3 6 c3 [nI x.client, nI x.seq, nI x.err, nI x.rev, fI x.yes, nI m.length])) :
  Code.wp Try.prog (eright 3 (Try.f41.body.getD .skip)) (bodyPost Try.prog Try.f41 (RefAP x w)) { tmps := #[u0, .pointer (some ⟨b, 0, none⟩), u2, u3, .slice q3 6 c3, u5, u6, u7, u8, u9, u10, u11, u12, u13, u14, u15, u16, u17, u18, u19, u20, u21, u22, u23, u24, u25, u26, u27, u28, u29, u30, u31, u32, u33, u34, u35, u36, u37, u38, u39, u40, u41, u42, u43, u44, u45, u46, u47, u48, u49, u50, u51, u52, u53, u54, u55, u56, u57, u58, u59, u60, u61, u62, u63, u64, u65, u66, u67, u68, u69, u70, u71, u72, u73, u74, u75, u76, u77, u78, u79, u80, u81, u82, u83, u84, u85, u86, u87, u88, u89, u90, u91, u92, u93, u94, u95, u96, u97, u98, u99, u100, u101, u102, u103, u104, u105, u106, u107, u108, u109, u110, u111, u112, u113, u114, u115, u116, u117, u118, u119, u120, u121, u122, u123, u124, u125, u126, u127, u128, u129, u130, u131, u132, u133, u134, u135, u136, u137, u138, u139, u140, u141, u142, u143, u144, u145, u146, u147, u148, u149, u150, u151, u152, u153, u154, u155, u156, u157, u158, u159, u160], defers := [] } W := by
 conv => arg 2; whnf
 dsimp only
 obtain ⟨i0, hi, hz0, hz1, hz2⟩ := info_parts Try.info_item
 have HI := Lib.hid (And.intro hi (And.intro hz0 (And.intro hz1 hz2)))
 clear hi hz0 hz1 hz2
 have hml := HE.out.len.2
 have HLL := Lib.hid (om_its x m HE.out.outs HT.out)
 go_upto_block 0 with fail
 go_cut [4] (fun v wx => ∃ (q : Option Addr) (n cq : Nat), v = .slice q n cq ∧ n ≤ 16777216 ∧ Hid (Ib V wx b 54 (anc x (.slice a m.length c)).toArray q n cq ([nI x.client, nI x.seq, nI x.err, nI x.rev, fI x.yes, nI m.length] ++ m.flatMap omIts)))
 case first =>
  go_wp2_with fail
  go_loopw [4, 5] (fun o i W0 => ∃ (k n : Nat) (q : Option Addr) (cc : Nat), k ≤ m.length ∧ i = .int .i64 k ∧ o = .slice q n cc ∧ Hid (Ib V W0 b 54 (anc x (.slice a m.length c)).toArray q n cc ([nI x.client, nI x.seq, nI x.err, nI x.rev, fI x.yes, nI m.length] ++ (m.take k).flatMap omIts))) (fun _ i _ => m.length - (intOf i).toNat)
  case atStart => exact ⟨0, _, _, _, by omega, rfl, rfl, Lib.hid (by simpa using H.out)⟩
  case round =>
   clear H
   rename World => W0
   obtain ⟨k, n, q, cc, hk, rfl, rfl, HW⟩ := hrel
   have hn : n ≤ 16777216 := by have h1 := HW.out.il.len; have h2 := HLL.out k; simp only [List.length_append, List.length_cons, List.length_nil] at h1; omega
   have zc := HW.out.blk.cell
   have z5 := zc 5
   clear zc
   simp only [anc, List.getElem?_toArray, List.getElem?_cons_zero, List.getElem?_cons_succ] at z5
   have zl := HW.out.blk.lt
   by_cases hlt : k < m.length
   ·have hlt' : (k : Int) < m.length := by omega
    obtain ⟨d, hd⟩ : ∃ d, m[k]? = some d := ⟨_, List.getElem?_eq_getElem hlt⟩
    have hrd := HE.out.rd.row.step0 HW.out.st
    obtain ⟨g, off, hsa⟩ := hrd.some_ (by omega)
    rw [hsa] at hrd
    have cd := rd_om hrd hd
    have gl : g < W0.heap.size := by have := World.block_lt_of_cell? _ _ cd.1; simpa using this
    have HD := Lib.hid (HE.out.om hd)
    have HX := Lib.hid hd
    have hdl : n + 3 + 4 * d.o.pairs.length ≤ 16777216 := by have h1 := HW.out.il.len; have h2 := HLL.out (k + 1); have h3 := pr_its m k d hd; simp only [List.length_append, List.length_cons, List.length_nil] at h1; omega
    clear hd hrd
    rw [hsa] at z5
    have HSA := Lib.hid hsa
    clear hsa
    go_upto_region 8 with fail
    clear z5 zl cd gl
    obtain ⟨ob, hob⟩ : ∃ ob, ob = W0.heap.size := ⟨_, rfl⟩
    obtain ⟨W1, hW1⟩ : ∃ W1, W1 = W0.alloc (.cells (omc d).toArray 113) := ⟨_, rfl⟩
    have O0 : Hid (Ib V W1 ob 113 (omc d).toArray q n cc ([nI x.client, nI x.seq, nI x.err, nI x.rev, fI x.yes, nI m.length] ++ (m.take k).flatMap omIts)) := Lib.hid (by rw [hW1, hob]; exact HW.out.il.box _ _)
    rw [show W0.alloc (.cells #[.slice d.a d.o.pairs.length d.c, .bool d.o.more, .int .i64 d.o.count] 113) = W1 from hW1.symm, ← hob]
    clear hW1 hob HW
    have pc := O0.out.blk.cell
    have p0 := pc 0
    clear pc
    simp only [omc, List.getElem?_toArray, List.getElem?_cons_zero, List.getElem?_cons_succ] at p0
    have pl := O0.out.blk.lt
    go_wp2_with fail
    refine (rnm_any (d.o.pairs.length : Int) _).mono ?_
    rintro e X3 ⟨rfl, kk⟩
    have C3 := Lib.hid (O0.out.quiet kk)
    clear kk p0 pl
    obtain ⟨g4, hg⟩ : ∃ g, g = X3.heap.size := ⟨_, rfl⟩
    obtain ⟨Y4, hW⟩ : ∃ Y, Y = X3.alloc (.cells #[.int .i64 0, .int .i64 (d.o.pairs.length : Int), .string ⟨#[]⟩, .bool false] 88) := ⟨_, rfl⟩
    have B4 : Hid (Ib V Y4 ob 113 (omc d).toArray q n cc ([nI x.client, nI x.seq, nI x.err, nI x.rev, fI x.yes, nI m.length] ++ (m.take k).flatMap omIts) ∧ Rd Y4 4 (some ⟨g4, 0, none⟩) 1 (itcs [nI (d.o.pairs.length : Int)])) := Lib.hid (by rw [hW, hg]; exact ⟨C3.out.alloc _, rd_blk' (xs := itcs [nI (d.o.pairs.length : Int)]) (Blk.new X3 88 _) 4 1 rfl⟩)
    have HY4 := Lib.hid hW
    have HG4 := Lib.hid hg
    clear hW hg
    go_upto_region 9 with (at_builtin; rw [show X3.heap.size = g4 from HG4.out.symm, show X3.alloc (.cells #[.int .i64 0, .int .i64 (d.o.pairs.length : Int), .string ⟨#[]⟩, .bool false] 88) = Y4 from HY4.out.symm]; refine wpList_append_row rfl (.tmp 69) (.tmp 74) 89 89 rfl 88 i0 _ 4 40 Try.underlying89 HI.out.1 HI.out.2.1 HI.out.2.2.1 HI.out.2.2.2 rfl rfl B4.out.1.row rfl (Src.rd (n := 1) 89 88 Try.underlying89 B4.out.2 (itcs_one _)) (by unfold maxLen; omega) (by omega) (by omega) ?_; intro a4 c4 w4 hr st; have A4 : Hid (Ib V w4 ob 113 (omc d).toArray a4 (n + 1) c4 (([nI x.client, nI x.seq, nI x.err, nI x.rev, fI x.yes, nI m.length] ++ (m.take k).flatMap omIts) ++ [nI (d.o.pairs.length : Int)])) := Lib.hid (B4.out.1.app hr st); clear hr st)
    clear HY4 HG4 C3 B4
    have U0 : Hid (Ib V w4 ob 113 (omc d).toArray a4 (n + 1 + 4 * 0) c4 (([nI x.client, nI x.seq, nI x.err, nI x.rev, fI x.yes, nI m.length] ++ (m.take k).flatMap omIts) ++ (nI d.o.pairs.length :: (d.o.pairs.take 0).flatMap prIts))) := Lib.hid (by simpa using A4.out)
    clear A4
    go_upto_block 2 with fail
    go_cut [4] (fun v wx => ∃ (q : Option Addr) (cc : Nat), v = .slice q (n + 1 + 4 * d.o.pairs.length) cc ∧ Hid (Ib V wx ob 113 (omc d).toArray q (n + 1 + 4 * d.o.pairs.length) cc (([nI x.client, nI x.seq, nI x.err, nI x.rev, fI x.yes, nI m.length] ++ (m.take k).flatMap omIts) ++ (nI d.o.pairs.length :: d.o.pairs.flatMap prIts))))
    case first =>
     go_wp2_with fail
     go_loopw [4, 7] (fun o i W2 => ∃ (j : Nat) (q : Option Addr) (cc : Nat), j ≤ d.o.pairs.length ∧ i = .int .i64 j ∧ o = .slice q (n + 1 + 4 * j) cc ∧ Hid (Ib V W2 ob 113 (omc d).toArray q (n + 1 + 4 * j) cc (([nI x.client, nI x.seq, nI x.err, nI x.rev, fI x.yes, nI m.length] ++ (m.take k).flatMap omIts) ++ (nI d.o.pairs.length :: (d.o.pairs.take j).flatMap prIts)))) (fun _ i _ => d.o.pairs.length - (intOf i).toNat)
     case atStart => exact ⟨0, _, _, by omega, rfl, rfl, U0⟩
     case round =>
      clear U0
      rename World => Y
      obtain ⟨j, qj, cj, hj, rfl, rfl, HY⟩ := hrel
      have zc := HY.out.blk.cell
      have z0 := zc 0
      clear zc
      simp only [omc, List.getElem?_toArray, List.getElem?_cons_zero, List.getElem?_cons_succ] at z0
      have zl := HY.out.blk.lt
      by_cases hlj : j < d.o.pairs.length
      ·have hlj' : (j : Int) < d.o.pairs.length := by omega
       obtain ⟨e, he⟩ : ∃ e, d.o.pairs[j]? = some e := ⟨_, List.getElem?_eq_getElem hlj⟩
       have HEE := Lib.hid he
       clear he
       have hrd := HD.out.2.2.step0 HY.out.st
       obtain ⟨g2, off2, hsb⟩ := hrd.some_ (by omega)
       have HSB := Lib.hid hsb
       have HRD := Lib.hid hrd
       clear hrd hsb
       go_upto_region 12 with fail
       clear z0 zl
       have D5 := Lib.hid (HY.out.quiet ((Step.refl [] _).drew))
       refine wp_region_held_drew (S := fun V => Hid (Blk V ob 113 (omc d).toArray ∧ Rd V 4 d.a d.o.pairs.length (prcs d.o.pairs))) (by kernel_rfl) (Lib.hid ⟨D5.out.blk, HD.out.2.2.step0 D5.out.st⟩) (fun hHeld => ?_)
       refine wpAnyH_take (i := 0) (v := ?_) rfl (by kernel_rfl) (by kernel_rfl) (by kernel_rfl) (fun _ _ _ h => h) (Or.inl ⟨by rfl, ?_⟩) hHeld ?_
       rotate_left
       ·intro w hSw1
        try dsimp only at hSw1
        go_simp
        try (with_reducible rfl)
       try simp only [Act.put, LsA, LsB, LsC, LsD, LsE, LsF]
       refine wpAnyH_take (i := 1) (v := ?_) rfl (by kernel_rfl) (by kernel_rfl) (by kernel_rfl) (fun _ _ _ h => h) (Or.inl ⟨by rfl, ?_⟩) hHeld ?_
       rotate_left
       ·intro w hSw1
        try dsimp only at hSw1
        go_simp
        try (with_reducible rfl)
       try simp only [Act.put, LsA, LsB, LsC, LsD, LsE, LsF]
       refine wpAnyH_take (i := 2) (v := ?_) rfl (by kernel_rfl) (by kernel_rfl) (by kernel_rfl) (fun _ _ _ h => h) (Or.inl ⟨by rfl, ?_⟩) hHeld ?_
       rotate_left
       ·intro w hSw1
        have tc := hSw1.out.1.cell 0
        have tl := hSw1.out.1.lt
        simp only [omc, List.getElem?_toArray, List.getElem?_cons_zero, List.getElem?_cons_succ] at tc
        rw [HSB.out] at tc
        have r2 := hSw1.out.2
        rw [HSB.out] at r2
        have ce := rd_pr r2 HEE.out
        have gl2 := World.block_lt_of_cell? _ _ ce.1
        simp only at gl2
        go_simp
        try (with_reducible rfl)
       try simp only [Act.put, LsA, LsB, LsC, LsD, LsE, LsF]
       refine wpAnyH_take (i := 3) (v := ?_) rfl (by kernel_rfl) (by kernel_rfl) (by kernel_rfl) (fun _ _ _ h => h) (Or.inl ⟨by rfl, ?_⟩) hHeld ?_
       rotate_left
       ·intro w hSw1
        try dsimp only at hSw1
        go_simp
        try (with_reducible rfl)
       try simp only [Act.put, LsA, LsB, LsC, LsD, LsE, LsF]
       refine wpAnyH_take (i := 4) (v := ?_) rfl (by kernel_rfl) (by kernel_rfl) (by kernel_rfl) (fun _ _ _ h => h) (Or.inl ⟨by rfl, ?_⟩) hHeld ?_
       rotate_left
       ·intro w hSw1
        have tc := hSw1.out.1.cell 0
        have tl := hSw1.out.1.lt
        simp only [omc, List.getElem?_toArray, List.getElem?_cons_zero, List.getElem?_cons_succ] at tc
        rw [HSB.out] at tc
        have r2 := hSw1.out.2
        rw [HSB.out] at r2
        have ce := rd_pr r2 HEE.out
        have gl2 := World.block_lt_of_cell? _ _ ce.1
        simp only at gl2
        go_simp
        try (with_reducible rfl)
       try simp only [Act.put, LsA, LsB, LsC, LsD, LsE, LsF]
       refine wpAnyH_take (i := 5) (v := ?_) rfl (by kernel_rfl) (by kernel_rfl) (by kernel_rfl) (fun _ _ _ h => h) (Or.inl ⟨by rfl, ?_⟩) hHeld ?_
       rotate_left
       ·intro w hSw1
        try dsimp only at hSw1
        go_simp
        try (with_reducible rfl)
       try simp only [Act.put, LsA, LsB, LsC, LsD, LsE, LsF]
       refine wpAnyH_take (i := 6) (v := ?_) rfl (by kernel_rfl) (by kernel_rfl) (by kernel_rfl) (fun _ _ _ h => h) (Or.inl ⟨by rfl, ?_⟩) hHeld ?_
       rotate_left
       ·intro w hSw1
        have tc := hSw1.out.1.cell 0
        have tl := hSw1.out.1.lt
        simp only [omc, List.getElem?_toArray, List.getElem?_cons_zero, List.getElem?_cons_succ] at tc
        rw [HSB.out] at tc
        have r2 := hSw1.out.2
        rw [HSB.out] at r2
        have ce := rd_pr r2 HEE.out
        have gl2 := World.block_lt_of_cell? _ _ ce.1
        simp only at gl2
        go_simp
        try (with_reducible rfl)
       try simp only [Act.put, LsA, LsB, LsC, LsD, LsE, LsF]
       refine wpAnyH_take (i := 8) (v := ?_) rfl (by kernel_rfl) (by kernel_rfl) (by kernel_rfl) (fun _ _ _ h => h) (Or.inl ⟨by rfl, ?_⟩) hHeld ?_
       rotate_left
       ·intro w hSw1
        try dsimp only at hSw1
        go_simp
        try (with_reducible rfl)
       try simp only [Act.put, LsA, LsB, LsC, LsD, LsE, LsF]
       refine wpAnyH_take (i := 9) (v := ?_) rfl (by kernel_rfl) (by kernel_rfl) (by kernel_rfl) (fun _ _ _ h => h) (Or.inl ⟨by rfl, ?_⟩) hHeld ?_
       rotate_left
       ·intro w hSw1
        have tc := hSw1.out.1.cell 0
        have tl := hSw1.out.1.lt
        simp only [omc, List.getElem?_toArray, List.getElem?_cons_zero, List.getElem?_cons_succ] at tc
        rw [HSB.out] at tc
        have r2 := hSw1.out.2
        rw [HSB.out] at r2
        have ce := rd_pr r2 HEE.out
        have gl2 := World.block_lt_of_cell? _ _ ce.1
        simp only at gl2
        go_simp
        try (with_reducible rfl)
       try simp only [Act.put, LsA, LsB, LsC, LsD, LsE, LsF]
       refine wpAnyH_take (i := 10) (v := ?_) rfl (by kernel_rfl) (by kernel_rfl) (by kernel_rfl) (fun _ _ _ h => h) (Or.inl ⟨by rfl, ?_⟩) hHeld ?_
       rotate_left
       ·intro w hSw1
        try dsimp only at hSw1
        go_simp
        try (with_reducible rfl)
       try simp only [Act.put, LsA, LsB, LsC, LsD, LsE, LsF]
       refine wpAnyH_take (i := 11) (v := ?_) rfl (by kernel_rfl) (by kernel_rfl) (by kernel_rfl) (fun _ _ _ h => h) (Or.inl ⟨by rfl, ?_⟩) hHeld ?_
       rotate_left
       ·intro w hSw1
        have tc := hSw1.out.1.cell 0
        have tl := hSw1.out.1.lt
        simp only [omc, List.getElem?_toArray, List.getElem?_cons_zero, List.getElem?_cons_succ] at tc
        rw [HSB.out] at tc
        have r2 := hSw1.out.2
        rw [HSB.out] at r2
        have ce := rd_pr r2 HEE.out
        have gl2 := World.block_lt_of_cell? _ _ ce.1
        simp only at gl2
        go_simp
        try (with_reducible rfl)
       try simp only [Act.put, LsA, LsB, LsC, LsD, LsE, LsF]
       refine wpAnyH_take (i := 12) (v := ?_) rfl (by kernel_rfl) (by kernel_rfl) (by kernel_rfl) (fun _ _ _ h => h) (Or.inl ⟨by rfl, ?_⟩) hHeld ?_
       rotate_left
       ·intro w hSw1
        try dsimp only at hSw1
        go_simp
        try (with_reducible rfl)
       try simp only [Act.put, LsA, LsB, LsC, LsD, LsE, LsF]
       refine wpAnyH_take (i := 13) (v := ?_) rfl (by kernel_rfl) (by kernel_rfl) (by kernel_rfl) (fun _ _ _ h => h) (Or.inl ⟨by rfl, ?_⟩) hHeld ?_
       rotate_left
       ·intro w hSw1
        have tc := hSw1.out.1.cell 0
        have tl := hSw1.out.1.lt
        simp only [omc, List.getElem?_toArray, List.getElem?_cons_zero, List.getElem?_cons_succ] at tc
        rw [HSB.out] at tc
        have r2 := hSw1.out.2
        rw [HSB.out] at r2
        have ce := rd_pr r2 HEE.out
        have gl2 := World.block_lt_of_cell? _ _ ce.1
        simp only at gl2
        go_simp
        try (with_reducible rfl)
       try simp only [Act.put, LsA, LsB, LsC, LsD, LsE, LsF]
       refine wpAnyH_take (i := 15) (v := ?_) rfl (by kernel_rfl) (by kernel_rfl) (by kernel_rfl) (fun _ _ _ h => h) (Or.inl ⟨by rfl, ?_⟩) hHeld ?_
       rotate_left
       ·intro w hSw1
        try dsimp only at hSw1
        go_simp
        try (with_reducible rfl)
       try simp only [Act.put, LsA, LsB, LsC, LsD, LsE, LsF]
       refine wpAnyH_take (i := 16) (v := ?_) rfl (by kernel_rfl) (by kernel_rfl) (by kernel_rfl) (fun _ _ _ h => h) (Or.inl ⟨by rfl, ?_⟩) hHeld ?_
       rotate_left
       ·intro w hSw1
        have tc := hSw1.out.1.cell 0
        have tl := hSw1.out.1.lt
        simp only [omc, List.getElem?_toArray, List.getElem?_cons_zero, List.getElem?_cons_succ] at tc
        rw [HSB.out] at tc
        have r2 := hSw1.out.2
        rw [HSB.out] at r2
        have ce := rd_pr r2 HEE.out
        have gl2 := World.block_lt_of_cell? _ _ ce.1
        simp only at gl2
        go_simp
        try (with_reducible rfl)
       try simp only [Act.put, LsA, LsB, LsC, LsD, LsE, LsF]
       refine wpAnyH_take (i := 17) (v := ?_) rfl (by kernel_rfl) (by kernel_rfl) (by kernel_rfl) (fun _ _ _ h => h) (Or.inl ⟨by rfl, ?_⟩) hHeld ?_
       rotate_left
       ·intro w hSw1
        try dsimp only at hSw1
        go_simp
        try (with_reducible rfl)
       try simp only [Act.put, LsA, LsB, LsC, LsD, LsE, LsF]
       refine wpAnyH_take (i := 18) (v := ?_) rfl (by kernel_rfl) (by kernel_rfl) (by kernel_rfl) (fun _ _ _ h => h) (Or.inl ⟨by rfl, ?_⟩) hHeld ?_
       rotate_left
       ·intro w hSw1
        have tc := hSw1.out.1.cell 0
        have tl := hSw1.out.1.lt
        simp only [omc, List.getElem?_toArray, List.getElem?_cons_zero, List.getElem?_cons_succ] at tc
        rw [HSB.out] at tc
        have r2 := hSw1.out.2
        rw [HSB.out] at r2
        have ce := rd_pr r2 HEE.out
        have gl2 := World.block_lt_of_cell? _ _ ce.1
        simp only at gl2
        go_simp
        try (with_reducible rfl)
       try simp only [Act.put, LsA, LsB, LsC, LsD, LsE, LsF]
       refine wpAnyH_take (i := 19) (v := ?_) rfl (by kernel_rfl) (by kernel_rfl) (by kernel_rfl) (fun _ _ _ h => h) (Or.inl ⟨by rfl, ?_⟩) hHeld ?_
       rotate_left
       ·intro w hSw1
        try dsimp only at hSw1
        go_simp
        try (with_reducible rfl)
       try simp only [Act.put, LsA, LsB, LsC, LsD, LsE, LsF]
       refine wpAnyH_take (i := 20) (v := ?_) rfl (by kernel_rfl) (by kernel_rfl) (by kernel_rfl) (fun _ _ _ h => h) (Or.inl ⟨by rfl, ?_⟩) hHeld ?_
       rotate_left
       ·intro w hSw1
        have tc := hSw1.out.1.cell 0
        have tl := hSw1.out.1.lt
        simp only [omc, List.getElem?_toArray, List.getElem?_cons_zero, List.getElem?_cons_succ] at tc
        rw [HSB.out] at tc
        have r2 := hSw1.out.2
        rw [HSB.out] at r2
        have ce := rd_pr r2 HEE.out
        have gl2 := World.block_lt_of_cell? _ _ ce.1
        simp only at gl2
        go_simp
        try (with_reducible rfl)
       try simp only [Act.put, LsA, LsB, LsC, LsD, LsE, LsF]
       refine wpAnyH_take (i := 22) (v := ?_) rfl (by kernel_rfl) (by kernel_rfl) (by kernel_rfl) (fun _ _ _ h => h) (Or.inl ⟨by rfl, ?_⟩) hHeld ?_
       rotate_left
       ·intro w hSw1
        try dsimp only at hSw1
        go_simp
        try (with_reducible rfl)
       try simp only [Act.put, LsA, LsB, LsC, LsD, LsE, LsF]
       refine wpAnyH_take (i := 23) (v := ?_) rfl (by kernel_rfl) (by kernel_rfl) (by kernel_rfl) (fun _ _ _ h => h) (Or.inl ⟨by rfl, ?_⟩) hHeld ?_
       rotate_left
       ·intro w hSw1
        have tc := hSw1.out.1.cell 0
        have tl := hSw1.out.1.lt
        simp only [omc, List.getElem?_toArray, List.getElem?_cons_zero, List.getElem?_cons_succ] at tc
        rw [HSB.out] at tc
        have r2 := hSw1.out.2
        rw [HSB.out] at r2
        have ce := rd_pr r2 HEE.out
        have gl2 := World.block_lt_of_cell? _ _ ce.1
        simp only at gl2
        go_simp
        try (with_reducible rfl)
       try simp only [Act.put, LsA, LsB, LsC, LsD, LsE, LsF]
       refine wpAnyH_take (i := 24) (v := ?_) rfl (by kernel_rfl) (by kernel_rfl) (by kernel_rfl) (fun _ _ _ h => h) (Or.inl ⟨by rfl, ?_⟩) hHeld ?_
       rotate_left
       ·intro w hSw1
        try dsimp only at hSw1
        go_simp
        try (with_reducible rfl)
       try simp only [Act.put, LsA, LsB, LsC, LsD, LsE, LsF]
       refine wpAnyH_take (i := 25) (v := ?_) rfl (by kernel_rfl) (by kernel_rfl) (by kernel_rfl) (fun _ _ _ h => h) (Or.inl ⟨by rfl, ?_⟩) hHeld ?_
       rotate_left
       ·intro w hSw1
        have tc := hSw1.out.1.cell 0
        have tl := hSw1.out.1.lt
        simp only [omc, List.getElem?_toArray, List.getElem?_cons_zero, List.getElem?_cons_succ] at tc
        rw [HSB.out] at tc
        have r2 := hSw1.out.2
        rw [HSB.out] at r2
        have ce := rd_pr r2 HEE.out
        have gl2 := World.block_lt_of_cell? _ _ ce.1
        simp only at gl2
        go_simp
        try (with_reducible rfl)
       try simp only [Act.put, LsA, LsB, LsC, LsD, LsE, LsF]
       refine wpAnyH_take (i := 26) (v := ?_) rfl (by kernel_rfl) (by kernel_rfl) (by kernel_rfl) (fun _ _ _ h => h) (Or.inl ⟨by rfl, ?_⟩) hHeld ?_
       rotate_left
       ·intro w hSw1
        try dsimp only at hSw1
        go_simp
        try (with_reducible rfl)
       try simp only [Act.put, LsA, LsB, LsC, LsD, LsE, LsF]
       refine wpAnyH_take (i := 27) (v := ?_) rfl (by kernel_rfl) (by kernel_rfl) (by kernel_rfl) (fun _ _ _ h => h) (Or.inl ⟨by rfl, ?_⟩) hHeld ?_
       rotate_left
       ·intro w hSw1
        have tc := hSw1.out.1.cell 0
        have tl := hSw1.out.1.lt
        simp only [omc, List.getElem?_toArray, List.getElem?_cons_zero, List.getElem?_cons_succ] at tc
        rw [HSB.out] at tc
        have r2 := hSw1.out.2
        rw [HSB.out] at r2
        have ce := rd_pr r2 HEE.out
        have gl2 := World.block_lt_of_cell? _ _ ce.1
        simp only at gl2
        go_simp
        try (with_reducible rfl)
       try simp only [Act.put, LsA, LsB, LsC, LsD, LsE, LsF]
       refine wpAnyH_ready (rs := [7]) (by kernel_rfl) (by simp) ?_
       refine AllReadyH.cons rfl (fun K hK => ?_) AllReadyH.nil
       go_simp
       refine (rtx_any e.key _).mono ?_; rintro e X6 ⟨rfl, kk⟩; have C6 := Lib.hid (D5.out.quiet kk); clear kk
       go_wp2_with fail
       refine hK.out _ _ (Lib.hid ⟨C6.out.blk, HD.out.2.2.step0 C6.out.st⟩) (fun hHeld2 => ?_)
       clear hK K hHeld
       try simp only [Act.put, LsA, LsB, LsC, LsD, LsE, LsF]
       refine wpAnyH_ready (rs := [14]) (by kernel_rfl) (by simp) ?_
       refine AllReadyH.cons rfl (fun K hK => ?_) AllReadyH.nil
       go_simp
       refine (rtx_any e.val _).mono ?_; rintro e X7 ⟨rfl, kk⟩; have C7 := Lib.hid (C6.out.quiet kk); clear kk
       go_wp2_with fail
       refine hK.out _ _ (Lib.hid ⟨C7.out.blk, HD.out.2.2.step0 C7.out.st⟩) (fun hHeld3 => ?_)
       clear hK K hHeld2
       try simp only [Act.put, LsA, LsB, LsC, LsD, LsE, LsF]
       refine wpAnyH_ready (rs := [21]) (by kernel_rfl) (by simp) ?_
       refine AllReadyH.cons rfl (fun K hK => ?_) AllReadyH.nil
       go_simp
       refine (rnm_any e.made _).mono ?_; rintro e X8 ⟨rfl, kk⟩; have C8 := Lib.hid (C7.out.quiet kk); clear kk
       go_wp2_with fail
       refine hK.out _ _ (Lib.hid ⟨C8.out.blk, HD.out.2.2.step0 C8.out.st⟩) (fun hHeld4 => ?_)
       clear hK K hHeld3
       try simp only [Act.put, LsA, LsB, LsC, LsD, LsE, LsF]
       refine wpAnyH_ready (rs := [28]) (by kernel_rfl) (by simp) ?_
       refine AllReadyH.cons rfl (fun K hK => ?_) AllReadyH.nil
       go_simp
       refine (rnm_any e.rev _).mono ?_; rintro e X9 ⟨rfl, kk⟩; have C9 := Lib.hid (C8.out.quiet kk); clear kk
       go_wp2_with fail
       refine hK.out _ _ (Lib.hid ⟨C9.out.blk, HD.out.2.2.step0 C9.out.st⟩) (fun hHeld5 => ?_)
       clear hK K hHeld4
       try simp only [Act.put, LsA, LsB, LsC, LsD, LsE, LsF]
       refine wpAnyH_ready (rs := [29]) (by kernel_rfl) (by simp) ?_
       refine AllReadyH.cons rfl (fun K hK => ?_) AllReadyH.nil
       go_simp; go_wp2_with fail; refine letterQ (K := K) ?_; intro U hU; obtain ⟨g10, hg⟩ : ∃ g, g = X9.heap.size := ⟨_, rfl⟩; have B10 : Hid (Ib V U ob 113 (omc d).toArray qj (n + 1 + 4 * j) cj (([nI x.client, nI x.seq, nI x.err, nI x.rev, fI x.yes, nI m.length] ++ (m.take k).flatMap omIts) ++ (nI d.o.pairs.length :: (d.o.pairs.take j).flatMap prIts)) ∧ Rd U 4 (some ⟨g10, 0, none⟩) 4 (itcs [tI e.key, tI e.val, nI e.made, nI e.rev])) := Lib.hid (by rw [hU, hg]; exact ⟨C9.out.alloc _, rd_blk' (xs := itcs [tI e.key, tI e.val, nI e.made, nI e.rev]) (Blk.new X9 88 _) 4 4 rfl⟩); try rw [← hg]; clear hU hg
       refine hK.out _ _ (Lib.hid ⟨B10.out.1.blk, HD.out.2.2.step0 B10.out.1.st⟩) (fun hHeld6 => ?_)
       clear hK K hHeld5
       try simp only [Act.put, LsA, LsB, LsC, LsD, LsE, LsF]
       refine wpAnyH_ready (rs := [30]) (by kernel_rfl) (by simp) ?_
       refine AllReadyH.cons rfl (fun K hK => ?_) AllReadyH.nil
       refine step_append_row rfl (.tmp 83) (.tmp 112) 89 89 rfl 88 i0 _ 4 40 Try.underlying89 HI.out.1 HI.out.2.1 HI.out.2.2.1 HI.out.2.2.2 rfl rfl B10.out.1.row rfl (Src.rd (n := 4) 89 88 Try.underlying89 B10.out.2 (itcs_one _)) (by unfold maxLen; omega) (by omega) (by omega) ?_; intro a10 c10 w10 hr st; have A10 : Hid (Ib V w10 ob 113 (omc d).toArray a10 ((n + 1 + 4 * j) + 4) c10 ((([nI x.client, nI x.seq, nI x.err, nI x.rev, fI x.yes, nI m.length] ++ (m.take k).flatMap omIts) ++ (nI d.o.pairs.length :: (d.o.pairs.take j).flatMap prIts)) ++ [tI e.key, tI e.val, nI e.made, nI e.rev])) := Lib.hid (B10.out.1.app hr st); clear hr st
       refine hK.out _ _ (Lib.hid ⟨A10.out.blk, HD.out.2.2.step0 A10.out.st⟩) (fun hHeld7 => ?_)
       clear hK K hHeld6
       try simp only [Act.put, LsA, LsB, LsC, LsD, LsE, LsF]
       refine wpAnyH_take (i := 31) (v := ?_) rfl (by kernel_rfl) (by kernel_rfl) (by kernel_rfl) (fun _ _ _ h => h) (Or.inl ⟨by rfl, ?_⟩) hHeld7 ?_
       rotate_left
       ·intro w hSw1
        try dsimp only at hSw1
        go_simp
        try (with_reducible rfl)
       try simp only [Act.put, LsA, LsB, LsC, LsD, LsE, LsF]
       refine wpAnyH_done (by kernel_rfl) ?_ _
       go_wp2_with fail
       go_roundw
       case rel => exact ⟨j + 1, _, _, by omega, by go_num, rfl, Lib.hid (by have hz := A10.out; rw [pr_step _ _ _ HEE.out]; simpa [prIts, List.append_assoc, Nat.mul_add, Nat.add_assoc] using hz)⟩
       case measure => simp [intOf]; omega
      ·have hnl : ¬ (j : Int) < d.o.pairs.length := by omega
       obtain rfl : j = d.o.pairs.length := by omega
       go_wp2_with fail
       go_meet
       exact ⟨_, _, rfl, Lib.hid (by have hz := HY.out; rw [List.take_length] at hz; exact hz)⟩
    case rest =>
     rename World => Y
     obtain ⟨qi, ci, rfl, T0⟩ := hcut
     clear U0
     go_upto_region 13 with fail
     have D11 := Lib.hid (T0.out.quiet ((Step.refl [] _).drew))
     refine wp_region_held_drew (S := fun V => Hid (Blk V ob 113 (omc d).toArray)) (by kernel_rfl) (Lib.hid D11.out.blk) (fun hHeld => ?_)
     refine wpAnyH_take (i := 0) (v := ?_) rfl (by kernel_rfl) (by kernel_rfl) (by kernel_rfl) (fun _ _ _ h => h) (Or.inl ⟨by rfl, ?_⟩) hHeld ?_
     rotate_left
     ·intro w hSw1
      try dsimp only at hSw1
      go_simp
      try (with_reducible rfl)
     try simp only [Act.put, LsA, LsB, LsC, LsD, LsE, LsF]
     refine wpAnyH_take (i := 1) (v := ?_) rfl (by kernel_rfl) (by kernel_rfl) (by kernel_rfl) (fun _ _ _ h => h) (Or.inl ⟨by rfl, ?_⟩) hHeld ?_
     rotate_left
     ·intro w hSw1
      try dsimp only at hSw1
      go_simp
      try (with_reducible rfl)
     try simp only [Act.put, LsA, LsB, LsC, LsD, LsE, LsF]
     refine wpAnyH_take (i := 2) (v := ?_) rfl (by kernel_rfl) (by kernel_rfl) (by kernel_rfl) (fun _ _ _ h => h) (Or.inl ⟨by rfl, ?_⟩) hHeld ?_
     rotate_left
     ·intro w hSw1
      have tc := hSw1.out.cell
      have t1 := tc 1
      have t2 := tc 2
      clear tc
      simp only [omc, List.getElem?_toArray, List.getElem?_cons_zero, List.getElem?_cons_succ] at t1 t2
      have tl := hSw1.out.lt
      go_simp
      try (with_reducible rfl)
     try simp only [Act.put, LsA, LsB, LsC, LsD, LsE, LsF]
     refine wpAnyH_take (i := 4) (v := ?_) rfl (by kernel_rfl) (by kernel_rfl) (by kernel_rfl) (fun _ _ _ h => h) (Or.inl ⟨by rfl, ?_⟩) hHeld ?_
     rotate_left
     ·intro w hSw1
      try dsimp only at hSw1
      go_simp
      try (with_reducible rfl)
     try simp only [Act.put, LsA, LsB, LsC, LsD, LsE, LsF]
     refine wpAnyH_take (i := 5) (v := ?_) rfl (by kernel_rfl) (by kernel_rfl) (by kernel_rfl) (fun _ _ _ h => h) (Or.inl ⟨by rfl, ?_⟩) hHeld ?_
     rotate_left
     ·intro w hSw1
      have tc := hSw1.out.cell
      have t1 := tc 1
      have t2 := tc 2
      clear tc
      simp only [omc, List.getElem?_toArray, List.getElem?_cons_zero, List.getElem?_cons_succ] at t1 t2
      have tl := hSw1.out.lt
      go_simp
      try (with_reducible rfl)
     try simp only [Act.put, LsA, LsB, LsC, LsD, LsE, LsF]
     refine wpAnyH_ready (rs := [3]) (by kernel_rfl) (by simp) ?_
     refine AllReadyH.cons rfl (fun K hK => ?_) AllReadyH.nil
     go_simp
     refine (rflg_any d.o.more _).mono ?_; rintro e X12 ⟨rfl, kk⟩; have C12 := Lib.hid (D11.out.quiet kk); clear kk
     go_wp2_with fail
     refine hK.out _ _ (Lib.hid C12.out.blk) (fun hHeld2 => ?_)
     clear hK K hHeld
     try simp only [Act.put, LsA, LsB, LsC, LsD, LsE, LsF]
     refine wpAnyH_ready (rs := [6]) (by kernel_rfl) (by simp) ?_
     refine AllReadyH.cons rfl (fun K hK => ?_) AllReadyH.nil
     go_simp
     refine (rnm_any d.o.count _).mono ?_; rintro e X13 ⟨rfl, kk⟩; have C13 := Lib.hid (C12.out.quiet kk); clear kk
     go_wp2_with fail
     refine hK.out _ _ (Lib.hid C13.out.blk) (fun hHeld3 => ?_)
     clear hK K hHeld2
     try simp only [Act.put, LsA, LsB, LsC, LsD, LsE, LsF]
     refine wpAnyH_ready (rs := [7]) (by kernel_rfl) (by simp) ?_
     refine AllReadyH.cons rfl (fun K hK => ?_) AllReadyH.nil
     go_simp; go_wp2_with fail; refine letterQ (K := K) ?_; intro U hU; obtain ⟨g14, hg⟩ : ∃ g, g = X13.heap.size := ⟨_, rfl⟩; have B14 : Hid (Ib V U ob 113 (omc d).toArray qi (n + 1 + 4 * d.o.pairs.length) ci (([nI x.client, nI x.seq, nI x.err, nI x.rev, fI x.yes, nI m.length] ++ (m.take k).flatMap omIts) ++ (nI d.o.pairs.length :: d.o.pairs.flatMap prIts)) ∧ Rd U 4 (some ⟨g14, 0, none⟩) 2 (itcs [fI d.o.more, nI d.o.count])) := Lib.hid (by rw [hU, hg]; exact ⟨C13.out.alloc _, rd_blk' (xs := itcs [fI d.o.more, nI d.o.count]) (Blk.new X13 88 _) 4 2 rfl⟩); try rw [← hg]; clear hU hg
     refine hK.out _ _ (Lib.hid B14.out.1.blk) (fun hHeld4 => ?_)
     clear hK K hHeld3
     try simp only [Act.put, LsA, LsB, LsC, LsD, LsE, LsF]
     refine wpAnyH_ready (rs := [8]) (by kernel_rfl) (by simp) ?_
     refine AllReadyH.cons rfl (fun K hK => ?_) AllReadyH.nil
     refine step_append_row rfl (.tmp 114) (.tmp 121) 89 89 rfl 88 i0 _ 4 40 Try.underlying89 HI.out.1 HI.out.2.1 HI.out.2.2.1 HI.out.2.2.2 rfl rfl B14.out.1.row rfl (Src.rd (n := 2) 89 88 Try.underlying89 B14.out.2 (itcs_one _)) (by unfold maxLen; omega) (by omega) (by omega) ?_; intro a14 c14 w14 hr st; have A14 : Hid (Ib V w14 ob 113 (omc d).toArray a14 ((n + 1 + 4 * d.o.pairs.length) + 2) c14 ((([nI x.client, nI x.seq, nI x.err, nI x.rev, fI x.yes, nI m.length] ++ (m.take k).flatMap omIts) ++ (nI d.o.pairs.length :: d.o.pairs.flatMap prIts)) ++ [fI d.o.more, nI d.o.count])) := Lib.hid (B14.out.1.app hr st); clear hr st
     refine hK.out _ _ (Lib.hid A14.out.blk) (fun hHeld5 => ?_)
     clear hK K hHeld4
     try simp only [Act.put, LsA, LsB, LsC, LsD, LsE, LsF]
     refine wpAnyH_take (i := 9) (v := ?_) rfl (by kernel_rfl) (by kernel_rfl) (by kernel_rfl) (fun _ _ _ h => h) (Or.inl ⟨by rfl, ?_⟩) hHeld5 ?_
     rotate_left
     ·intro w hSw1
      try dsimp only at hSw1
      go_simp
      try (with_reducible rfl)
     try simp only [Act.put, LsA, LsB, LsC, LsD, LsE, LsF]
     refine wpAnyH_done (by kernel_rfl) ?_ _
     go_wp2_with fail
     go_roundw
     case rel => exact ⟨k + 1, _, _, _, by omega, by go_num, rfl, Lib.hid (Il.with (by have hz := A14.out.il; rw [om_step _ _ _ HX.out]; simpa [omIts, otIts, List.append_assoc] using hz) HB.out)⟩
     case measure => simp [intOf]; omega
   ·have hnl : ¬ (k : Int) < m.length := by omega
    obtain rfl : k = m.length := by omega
    go_wp2_with fail
    go_meet
    exact ⟨_, _, _, rfl, by omega, Lib.hid (by have hz := HW.out; rw [List.take_length] at hz; exact hz)⟩
 case rest =>
  rename World => Y
  obtain ⟨q4, n4, c4, rfl, hn4, H4⟩ := hcut
  rename ∀ (a : Act) (w : World), Code.wp _ _ _ a w → _ => hK
  refine hK _ _ ?_
  exact ab4 HE HB HH HT hn4 H4
end
set_option maxHeartbeats 16000000 in
theorem ransB_any (x : An) (m : List Om) (a : Option Addr) (c : Nat) (w : World) (hr : RdO w a m) (ho : m.map (·.o) = x.outs) (hB : AnB x) (hL : LenA x) (hN : (numsA x).length ≤ 1099511627776) (hT : (ansIts x).length ≤ 16777216) : Calls Try.prog 41 #[anV x (.slice a m.length c)] w (RefAP x w) := by
 have H00 : Hid (EaH w (w.alloc (.cells (anc x (.slice a m.length c)).toArray 54)) x m a ∧ Blk (w.alloc (.cells (anc x (.slice a m.length c)).toArray 54)) w.heap.size 54 (anc x (.slice a m.length c)).toArray) := Lib.hid ⟨⟨hr.step ((Step.refl [] w).alloc _), ho, (Step.refl [] w).alloc _, hB, hN, hL⟩, Blk.new w _ _⟩
 have HT := Lib.hid hT
 clear hr ho hB hN hL hT
 go_enter Try.func41, Try.ntmps41
 go_upto_region 1 with fail
 change Code.wp _ _ _ _ (w.alloc (.cells (anc x (.slice a m.length c)).toArray 54))
 obtain ⟨b, hb⟩ : ∃ b, b = w.heap.size := ⟨_, rfl⟩
 obtain ⟨V, hV⟩ : ∃ V, V = (w.alloc (.cells (anc x (.slice a m.length c)).toArray 54)) := ⟨_, rfl⟩
 rw [← hV, ← hb] at H00
 rw [← hV]
 try rw [← hb]
 have HE := Lib.hid H00.out.1
 have HB := Lib.hid H00.out.2
 clear hV hb H00
 have fc := HB.out.cell
 have f0 := fc 0
 have f1 := fc 1
 have f2 := fc 2
 clear fc
 simp only [anc, List.getElem?_toArray, List.getElem?_cons_zero, List.getElem?_cons_succ] at f0 f1 f2
 have fl := HB.out.lt
 by_cases t0 : x.client < 1
 ·have td : decide (x.client < 1) = true := decide_eq_true t0
  have HV : Hid (refAB x = ([], 1)) := Lib.hid (by have hi : okHead x = false := by (cases hq : okHead x with | false => rfl | true => obtain ⟨q1, q2, q3⟩ := head_of hq; have := okIds_iff.1 q1; omega)
                                                   rw [refAB, if_pos hi])
  clear t0
  go_wp2_with fail
  exact bodyPost_ret (results_tmp2 rfl _ _ _) rfl ⟨by rw [HV.out]; rfl, HE.out.st⟩
 have t0d : decide (x.client < 1) = false := decide_eq_false t0
 by_cases t1 : (8 : Int) < x.client
 ·have td : decide ((8 : Int) < x.client) = true := decide_eq_true t1
  have HV : Hid (refAB x = ([], 1)) := Lib.hid (by have hi : okHead x = false := by (cases hq : okHead x with | false => rfl | true => obtain ⟨q1, q2, q3⟩ := head_of hq; have := okIds_iff.1 q1; omega)
                                                   rw [refAB, if_pos hi])
  clear t1
  go_wp2_with fail
  exact bodyPost_ret (results_tmp2 rfl _ _ _) rfl ⟨by rw [HV.out]; rfl, HE.out.st⟩
 have t1d : decide ((8 : Int) < x.client) = false := decide_eq_false t1
 by_cases t2 : x.seq < 1
 ·have td : decide (x.seq < 1) = true := decide_eq_true t2
  have HV : Hid (refAB x = ([], 1)) := Lib.hid (by have hi : okHead x = false := by (cases hq : okHead x with | false => rfl | true => obtain ⟨q1, q2, q3⟩ := head_of hq; have := okIds_iff.1 q1; omega)
                                                   rw [refAB, if_pos hi])
  clear t2
  go_wp2_with fail
  exact bodyPost_ret (results_tmp2 rfl _ _ _) rfl ⟨by rw [HV.out]; rfl, HE.out.st⟩
 have t2d : decide (x.seq < 1) = false := decide_eq_false t2
 by_cases t3 : (1099511627776 : Int) < x.seq
 ·have td : decide ((1099511627776 : Int) < x.seq) = true := decide_eq_true t3
  have HV : Hid (refAB x = ([], 1)) := Lib.hid (by have hi : okHead x = false := by (cases hq : okHead x with | false => rfl | true => obtain ⟨q1, q2, q3⟩ := head_of hq; have := okIds_iff.1 q1; omega)
                                                   rw [refAB, if_pos hi])
  clear t3
  go_wp2_with fail
  exact bodyPost_ret (results_tmp2 rfl _ _ _) rfl ⟨by rw [HV.out]; rfl, HE.out.st⟩
 have t3d : decide ((1099511627776 : Int) < x.seq) = false := decide_eq_false t3
 by_cases t4 : x.err < 0
 ·have td : decide (x.err < 0) = true := decide_eq_true t4
  have HV : Hid (refAB x = ([], 1)) := Lib.hid (by have hi : okHead x = false := by (cases hq : okHead x with | false => rfl | true => obtain ⟨q1, q2, q3⟩ := head_of hq; have := okIds_iff.1 q1; omega)
                                                   rw [refAB, if_pos hi])
  clear t4
  go_wp2_with fail
  exact bodyPost_ret (results_tmp2 rfl _ _ _) rfl ⟨by rw [HV.out]; rfl, HE.out.st⟩
 have t4d : decide (x.err < 0) = false := decide_eq_false t4
 by_cases t5 : (255 : Int) < x.err
 ·have td : decide ((255 : Int) < x.err) = true := decide_eq_true t5
  have HV : Hid (refAB x = ([], 1)) := Lib.hid (by have hi : okHead x = false := by (cases hq : okHead x with | false => rfl | true => obtain ⟨q1, q2, q3⟩ := head_of hq; have := okIds_iff.1 q1; omega)
                                                   rw [refAB, if_pos hi])
  clear t5
  go_wp2_with fail
  exact bodyPost_ret (results_tmp2 rfl _ _ _) rfl ⟨by rw [HV.out]; rfl, HE.out.st⟩
 have t5d : decide ((255 : Int) < x.err) = false := decide_eq_false t5
 have HH : Hid (okHead x = true) := Lib.hid (by simp only [okHead, show okIds x.client x.seq = true from okIds_iff.2 ⟨⟨by omega, by omega⟩, ⟨by omega, by omega⟩⟩, t4d, t5d]; rfl)
 go_upto_region 3 with fail
 clear f0 f1 f2 fl t0 t0d t1 t1d t2 t2d t3 t3d t4 t4d t5 t5d
 go_cut [4] (fun v wx => ∃ (q : Option Addr) (cq : Nat), v = .slice q 6 cq ∧ Hid (Ib V wx b 54 (anc x (.slice a m.length c)).toArray q 6 cq [nI x.client, nI x.seq, nI x.err, nI x.rev, fI x.yes, nI m.length]))
 case first =>
  have C0q : Hid (Blk V.drew b 54 (anc x (.slice a m.length c)).toArray ∧ Step [] [] V V.drew) := Lib.hid ⟨HB.out.drew, (Step.refl [] V).drew⟩
  refine wp_region_held_drew (S := fun V => Hid (Blk V b 54 (anc x (.slice a m.length c)).toArray)) (by kernel_rfl) (Lib.hid C0q.out.1) (fun hHeld => ?_)
  refine wpAnyH_take (i := 0) (v := ?_) rfl (by kernel_rfl) (by kernel_rfl) (by kernel_rfl) (fun _ _ _ h => h) (Or.inl ⟨by rfl, ?_⟩) hHeld ?_
  rotate_left
  ·intro w hSw1
   try dsimp only at hSw1
   go_simp
   try (with_reducible rfl)
  try simp only [Act.put, LsA, LsB, LsC, LsD, LsE, LsF]
  refine wpAnyH_take (i := 1) (v := ?_) rfl (by kernel_rfl) (by kernel_rfl) (by kernel_rfl) (fun _ _ _ h => h) (Or.inl ⟨by rfl, ?_⟩) hHeld ?_
  rotate_left
  ·intro w hSw1
   have tc := hSw1.out.cell
   have t0 := tc 0
   have t1 := tc 1
   have t2 := tc 2
   have t3 := tc 3
   have t4 := tc 4
   have t5 := tc 5
   have t6 := tc 6
   clear tc
   simp only [anc, List.getElem?_toArray, List.getElem?_cons_zero, List.getElem?_cons_succ] at t0 t1 t2 t3 t4 t5 t6
   have tl := hSw1.out.lt
   go_simp
   try (with_reducible rfl)
  try simp only [Act.put, LsA, LsB, LsC, LsD, LsE, LsF]
  refine wpAnyH_take (i := 3) (v := ?_) rfl (by kernel_rfl) (by kernel_rfl) (by kernel_rfl) (fun _ _ _ h => h) (Or.inl ⟨by rfl, ?_⟩) hHeld ?_
  rotate_left
  ·intro w hSw1
   try dsimp only at hSw1
   go_simp
   try (with_reducible rfl)
  try simp only [Act.put, LsA, LsB, LsC, LsD, LsE, LsF]
  refine wpAnyH_take (i := 4) (v := ?_) rfl (by kernel_rfl) (by kernel_rfl) (by kernel_rfl) (fun _ _ _ h => h) (Or.inl ⟨by rfl, ?_⟩) hHeld ?_
  rotate_left
  ·intro w hSw1
   have tc := hSw1.out.cell
   have t0 := tc 0
   have t1 := tc 1
   have t2 := tc 2
   have t3 := tc 3
   have t4 := tc 4
   have t5 := tc 5
   have t6 := tc 6
   clear tc
   simp only [anc, List.getElem?_toArray, List.getElem?_cons_zero, List.getElem?_cons_succ] at t0 t1 t2 t3 t4 t5 t6
   have tl := hSw1.out.lt
   go_simp
   try (with_reducible rfl)
  try simp only [Act.put, LsA, LsB, LsC, LsD, LsE, LsF]
  refine wpAnyH_take (i := 6) (v := ?_) rfl (by kernel_rfl) (by kernel_rfl) (by kernel_rfl) (fun _ _ _ h => h) (Or.inl ⟨by rfl, ?_⟩) hHeld ?_
  rotate_left
  ·intro w hSw1
   try dsimp only at hSw1
   go_simp
   try (with_reducible rfl)
  try simp only [Act.put, LsA, LsB, LsC, LsD, LsE, LsF]
  refine wpAnyH_take (i := 7) (v := ?_) rfl (by kernel_rfl) (by kernel_rfl) (by kernel_rfl) (fun _ _ _ h => h) (Or.inl ⟨by rfl, ?_⟩) hHeld ?_
  rotate_left
  ·intro w hSw1
   have tc := hSw1.out.cell
   have t0 := tc 0
   have t1 := tc 1
   have t2 := tc 2
   have t3 := tc 3
   have t4 := tc 4
   have t5 := tc 5
   have t6 := tc 6
   clear tc
   simp only [anc, List.getElem?_toArray, List.getElem?_cons_zero, List.getElem?_cons_succ] at t0 t1 t2 t3 t4 t5 t6
   have tl := hSw1.out.lt
   go_simp
   try (with_reducible rfl)
  try simp only [Act.put, LsA, LsB, LsC, LsD, LsE, LsF]
  refine wpAnyH_take (i := 9) (v := ?_) rfl (by kernel_rfl) (by kernel_rfl) (by kernel_rfl) (fun _ _ _ h => h) (Or.inl ⟨by rfl, ?_⟩) hHeld ?_
  rotate_left
  ·intro w hSw1
   try dsimp only at hSw1
   go_simp
   try (with_reducible rfl)
  try simp only [Act.put, LsA, LsB, LsC, LsD, LsE, LsF]
  refine wpAnyH_take (i := 10) (v := ?_) rfl (by kernel_rfl) (by kernel_rfl) (by kernel_rfl) (fun _ _ _ h => h) (Or.inl ⟨by rfl, ?_⟩) hHeld ?_
  rotate_left
  ·intro w hSw1
   have tc := hSw1.out.cell
   have t0 := tc 0
   have t1 := tc 1
   have t2 := tc 2
   have t3 := tc 3
   have t4 := tc 4
   have t5 := tc 5
   have t6 := tc 6
   clear tc
   simp only [anc, List.getElem?_toArray, List.getElem?_cons_zero, List.getElem?_cons_succ] at t0 t1 t2 t3 t4 t5 t6
   have tl := hSw1.out.lt
   go_simp
   try (with_reducible rfl)
  try simp only [Act.put, LsA, LsB, LsC, LsD, LsE, LsF]
  refine wpAnyH_take (i := 12) (v := ?_) rfl (by kernel_rfl) (by kernel_rfl) (by kernel_rfl) (fun _ _ _ h => h) (Or.inl ⟨by rfl, ?_⟩) hHeld ?_
  rotate_left
  ·intro w hSw1
   try dsimp only at hSw1
   go_simp
   try (with_reducible rfl)
  try simp only [Act.put, LsA, LsB, LsC, LsD, LsE, LsF]
  refine wpAnyH_take (i := 13) (v := ?_) rfl (by kernel_rfl) (by kernel_rfl) (by kernel_rfl) (fun _ _ _ h => h) (Or.inl ⟨by rfl, ?_⟩) hHeld ?_
  rotate_left
  ·intro w hSw1
   have tc := hSw1.out.cell
   have t0 := tc 0
   have t1 := tc 1
   have t2 := tc 2
   have t3 := tc 3
   have t4 := tc 4
   have t5 := tc 5
   have t6 := tc 6
   clear tc
   simp only [anc, List.getElem?_toArray, List.getElem?_cons_zero, List.getElem?_cons_succ] at t0 t1 t2 t3 t4 t5 t6
   have tl := hSw1.out.lt
   go_simp
   try (with_reducible rfl)
  try simp only [Act.put, LsA, LsB, LsC, LsD, LsE, LsF]
  refine wpAnyH_take (i := 15) (v := ?_) rfl (by kernel_rfl) (by kernel_rfl) (by kernel_rfl) (fun _ _ _ h => h) (Or.inl ⟨by rfl, ?_⟩) hHeld ?_
  rotate_left
  ·intro w hSw1
   try dsimp only at hSw1
   go_simp
   try (with_reducible rfl)
  try simp only [Act.put, LsA, LsB, LsC, LsD, LsE, LsF]
  refine wpAnyH_take (i := 16) (v := ?_) rfl (by kernel_rfl) (by kernel_rfl) (by kernel_rfl) (fun _ _ _ h => h) (Or.inl ⟨by rfl, ?_⟩) hHeld ?_
  rotate_left
  ·intro w hSw1
   have tc := hSw1.out.cell
   have t0 := tc 0
   have t1 := tc 1
   have t2 := tc 2
   have t3 := tc 3
   have t4 := tc 4
   have t5 := tc 5
   have t6 := tc 6
   clear tc
   simp only [anc, List.getElem?_toArray, List.getElem?_cons_zero, List.getElem?_cons_succ] at t0 t1 t2 t3 t4 t5 t6
   have tl := hSw1.out.lt
   go_simp
   try (with_reducible rfl)
  try simp only [Act.put, LsA, LsB, LsC, LsD, LsE, LsF]
  refine wpAnyH_take (i := 17) (v := ?_) rfl (by kernel_rfl) (by kernel_rfl) (by kernel_rfl) (fun _ _ _ h => h) (Or.inl ⟨by rfl, ?_⟩) hHeld ?_
  rotate_left
  ·intro w hSw1
   try dsimp only at hSw1
   go_simp
   try (with_reducible rfl)
  try simp only [Act.put, LsA, LsB, LsC, LsD, LsE, LsF]
  refine wpAnyH_ready (rs := [2]) (by kernel_rfl) (by simp) ?_
  refine AllReadyH.cons rfl (fun K hK => ?_) AllReadyH.nil
  go_simp
  refine (rnm_any x.client _).mono ?_; rintro e X15q ⟨rfl, kk⟩; have C15 : Hid (Blk X15q b 54 (anc x (.slice a m.length c)).toArray ∧ Step [] [] V X15q) := Lib.hid ⟨C0q.out.1.step kk (by simp), C0q.out.2.trans kk⟩; clear kk
  go_wp2_with fail
  refine hK.out _ _ (Lib.hid C15.out.1) (fun hHeld2 => ?_)
  clear hK K hHeld
  try simp only [Act.put, LsA, LsB, LsC, LsD, LsE, LsF]
  refine wpAnyH_ready (rs := [5]) (by kernel_rfl) (by simp) ?_
  refine AllReadyH.cons rfl (fun K hK => ?_) AllReadyH.nil
  go_simp
  refine (rnm_any x.seq _).mono ?_; rintro e X16q ⟨rfl, kk⟩; have C16 : Hid (Blk X16q b 54 (anc x (.slice a m.length c)).toArray ∧ Step [] [] V X16q) := Lib.hid ⟨C15.out.1.step kk (by simp), C15.out.2.trans kk⟩; clear kk
  go_wp2_with fail
  refine hK.out _ _ (Lib.hid C16.out.1) (fun hHeld3 => ?_)
  clear hK K hHeld2
  try simp only [Act.put, LsA, LsB, LsC, LsD, LsE, LsF]
  refine wpAnyH_ready (rs := [8]) (by kernel_rfl) (by simp) ?_
  refine AllReadyH.cons rfl (fun K hK => ?_) AllReadyH.nil
  go_simp
  refine (rnm_any x.err _).mono ?_; rintro e X17q ⟨rfl, kk⟩; have C17 : Hid (Blk X17q b 54 (anc x (.slice a m.length c)).toArray ∧ Step [] [] V X17q) := Lib.hid ⟨C16.out.1.step kk (by simp), C16.out.2.trans kk⟩; clear kk
  go_wp2_with fail
  refine hK.out _ _ (Lib.hid C17.out.1) (fun hHeld4 => ?_)
  clear hK K hHeld3
  try simp only [Act.put, LsA, LsB, LsC, LsD, LsE, LsF]
  refine wpAnyH_ready (rs := [11]) (by kernel_rfl) (by simp) ?_
  refine AllReadyH.cons rfl (fun K hK => ?_) AllReadyH.nil
  go_simp
  refine (rnm_any x.rev _).mono ?_; rintro e X18q ⟨rfl, kk⟩; have C18 : Hid (Blk X18q b 54 (anc x (.slice a m.length c)).toArray ∧ Step [] [] V X18q) := Lib.hid ⟨C17.out.1.step kk (by simp), C17.out.2.trans kk⟩; clear kk
  go_wp2_with fail
  refine hK.out _ _ (Lib.hid C18.out.1) (fun hHeld5 => ?_)
  clear hK K hHeld4
  try simp only [Act.put, LsA, LsB, LsC, LsD, LsE, LsF]
  refine wpAnyH_ready (rs := [14]) (by kernel_rfl) (by simp) ?_
  refine AllReadyH.cons rfl (fun K hK => ?_) AllReadyH.nil
  go_simp
  refine (rflg_any x.yes _).mono ?_; rintro e X19q ⟨rfl, kk⟩; have C19 : Hid (Blk X19q b 54 (anc x (.slice a m.length c)).toArray ∧ Step [] [] V X19q) := Lib.hid ⟨C18.out.1.step kk (by simp), C18.out.2.trans kk⟩; clear kk
  go_wp2_with fail
  refine hK.out _ _ (Lib.hid C19.out.1) (fun hHeld6 => ?_)
  clear hK K hHeld5
  try simp only [Act.put, LsA, LsB, LsC, LsD, LsE, LsF]
  refine wpAnyH_ready (rs := [18]) (by kernel_rfl) (by simp) ?_
  refine AllReadyH.cons rfl (fun K hK => ?_) AllReadyH.nil
  go_simp
  refine (rnm_any m.length _).mono ?_; rintro e X20q ⟨rfl, kk⟩; have C20 : Hid (Blk X20q b 54 (anc x (.slice a m.length c)).toArray ∧ Step [] [] V X20q) := Lib.hid ⟨C19.out.1.step kk (by simp), C19.out.2.trans kk⟩; clear kk
  go_wp2_with fail
  refine hK.out _ _ (Lib.hid C20.out.1) (fun hHeld7 => ?_)
  clear hK K hHeld6
  try simp only [Act.put, LsA, LsB, LsC, LsD, LsE, LsF]
  refine wpAnyH_ready (rs := [19]) (by kernel_rfl) (by simp) ?_
  refine AllReadyH.cons rfl (fun K hK => ?_) AllReadyH.nil
  go_simp; go_wp2_with fail; refine letterQ (K := K) ?_; intro U hU; have E0 : Hid (Ib V U b 54 (anc x (.slice a m.length c)).toArray (some ⟨X20q.heap.size, 0, none⟩) 6 6 [nI x.client, nI x.seq, nI x.err, nI x.rev, fI x.yes, nI m.length]) := Lib.hid (by rw [hU]; exact Ib.freshA HB.out C20.out.2 [nI x.client, nI x.seq, nI x.err, nI x.rev, fI x.yes, nI m.length] (by simp)); clear hU
  refine hK.out _ _ (Lib.hid E0.out.blk) (fun hHeld8 => ?_)
  clear hK K hHeld7
  try simp only [Act.put, LsA, LsB, LsC, LsD, LsE, LsF]
  refine wpAnyH_take (i := 20) (v := ?_) rfl (by kernel_rfl) (by kernel_rfl) (by kernel_rfl) (fun _ _ _ h => h) (Or.inl ⟨by rfl, ?_⟩) hHeld8 ?_
  rotate_left
  ·intro w hSw1
   try dsimp only at hSw1
   go_simp
   try (with_reducible rfl)
  try simp only [Act.put, LsA, LsB, LsC, LsD, LsE, LsF]
  refine wpAnyH_done (by kernel_rfl) ?_ _
  go_wp2_with fail
  go_meet
  exact ⟨_, 6, rfl, E0⟩
 case rest =>
  rename World => Y
  obtain ⟨q3, c3, rfl, H3⟩ := hcut
  rename ∀ (a : Act) (w : World), Code.wp _ _ _ a w → _ => hK
  refine hK _ _ ?_
  exact ab3 HE HB HH HT H3
end Go.Proofs.Ytjfaplmojpldhaa
