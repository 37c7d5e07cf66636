/-
 The reference's Bytes. Condition: at most 2^20 compares and acts, ints, texts of at most 2^49 bytes.
-/
import Derived.Test.YtjfaplmojpldhaaZGB
import Derived.Test.YtjfaplmojpldhaaZGC
import Derived.Test.YtjfaplmojpldhaaZReqU
import Derived.Test.YtjfaplmojpldhaaZReqX
import Derived.Test.YtjfaplmojpldhaaZReqO
import Derived.Deep.DeepCutAuto
import Derived.Deep.CutBlock
namespace Go.Proofs.Ytjfaplmojpldhaa
open Go.RowKit
set_option linter.unusedSimpArgs false
set_option linter.unusedVariables false
set_option maxRecDepth 100000

def refBq (x : Cm) : List UInt8 × Int := if isK x.kind then refB (cleanC x) else ([], 1)
theorem Ib.fresh {w W : World} {b : Nat} {T : TypeId} {cs : Array Value} (h : Blk W b T cs) (k : Step [] [] w W) (l : List It) (hl : l.length ≤ 1000) : Ib w (W.alloc (.cells (itcs l).toArray 88)) b T cs (some ⟨W.heap.size, 0, none⟩) l.length l.length l :=
 ⟨h.alloc _, row_blk' (Blk.new W _ _) 4 l.length (itcs_len l) (by unfold maxLen; omega), (k.hold _).drop (by simp [blks]), by simp [blks]; have := h.lt; omega⟩
theorem reqIts_ok (y : Cm) (h : CmB y) (hL : LenS y) (hk : isK y.kind = true) : ∀ i ∈ reqIts y, i.ok := by
 have hN : ∀ n : Int, n < 9223372036854775808 → (nI n).ok := fun n h => by simp [It.ok, nI]; omega
 have hF : ∀ b : Bool, (fI b).ok := fun b => by simp [It.ok, fI]
 have hT : ∀ s : List UInt8, s.length ≤ 562949953421312 → (tI s).ok := fun s h => by simp [It.ok, tI]; omega
 have hA : ∀ l : List Da, (∀ d ∈ l, DaB d) → l.length ≤ 1048576 → ∀ i ∈ dasIts l, i.ok := by
  intro l hl hn i hi
  simp only [dasIts, List.mem_cons, List.mem_flatMap] at hi
  rcases hi with rfl | ⟨d, hd, hi⟩
  ·exact hN _ (by omega)
  ·obtain ⟨h1, h2, h3, h4, h5, h6, h7⟩ := hl d hd
   unfold daIts at hi
   repeat' split at hi
   all_goals
    simp only [List.mem_cons, List.not_mem_nil, or_false] at hi
    rcases hi with rfl | rfl | rfl | rfl | rfl <;> first | exact hN _ h1 | exact hN _ h2 | exact hN _ h3 | exact hT _ h4 | exact hT _ h5 | exact hT _ h6 | exact hT _ h7
 have hC : ∀ i ∈ cpsIts y.ifs, i.ok := by
  intro i hi
  simp only [cpsIts, cpIts, List.mem_cons, List.mem_flatMap, List.not_mem_nil, or_false] at hi
  rcases hi with rfl | ⟨c, hc, hi⟩
  ·exact hN _ (by have := hL.i; omega)
  ·obtain ⟨h1, h2, h3, h4⟩ := h.ifs c hc
   rcases hi with rfl | rfl | rfl | rfl <;> first | exact hN _ h1 | exact hN _ h2 | exact hT _ h3 | exact hT _ h4
 intro i hi
 simp only [reqIts, List.mem_cons] at hi
 rcases hi with rfl | rfl | rfl | rfl | hi
 ·exact hN _ (by have := (isK_num hk).2; omega)
 ·exact hN _ h.client
 ·exact hN _ h.seq
 ·exact hT _ h.token
 ·unfold tailIts at hi
  split at hi
  ·simp only [List.mem_cons, List.not_mem_nil, or_false] at hi
   rcases hi with rfl | rfl <;> first | exact hT _ h.name | exact hT _ h.word
  ·split at hi
   ·simp only [List.mem_append] at hi
    rcases hi with hi | hi | hi
    ·exact hC i hi
    ·exact hA _ h.thens hL.t i hi
    ·exact hA _ h.elses hL.e i hi
   ·repeat' split at hi
    all_goals
     simp only [List.mem_cons, List.not_mem_nil, or_false] at hi
     rcases hi with rfl | rfl | rfl | rfl | rfl <;> first | exact hT _ h.name | exact hT _ h.other | exact hT _ h.word | exact hT _ h.salt | exact hT _ h.gf | exact hT _ h.gt | exact hF _ | exact hN _ h.bytes | exact hN _ h.keys | exact hN _ h.rev
theorem cleanQ_eq (y : Cm) (hk : isK y.kind = true) (hc : cleanC y = y) : reqIts y = [nI y.kind, nI y.client, nI y.seq, tI y.token] ++ (if hasN y.kind = true then [tI y.name] else []) ++ (if hasO y.kind = true then [tI y.other] else []) ++ (if hasW y.kind = true then [tI y.word] else []) ++ (if hasS y.kind = true then [tI y.salt] else []) ++ (if hasQ y.kind = true then [nI y.bytes, nI y.keys] else []) ++ (if hasR y.kind = true then [nI y.rev] else []) ++ (if (hasG y.kind || decide (y.kind = 12)) = true then [tI y.gf, tI y.gt] else []) ++ (if hasG y.kind = true then [fI y.gr, fI y.gw] else []) ++ (if hasT y.kind = true then cpsIts y.ifs ++ (dasIts y.thens ++ dasIts y.elses) else []) := by
 have h' : y.kind = 1 ∨ y.kind = 2 ∨ y.kind = 3 ∨ y.kind = 4 ∨ y.kind = 5 ∨ y.kind = 6 ∨ y.kind = 7 ∨ y.kind = 8 ∨ y.kind = 9 ∨ y.kind = 10 ∨ y.kind = 11 ∨ y.kind = 12 ∨ y.kind = 13 ∨ y.kind = 14 := by simp [isK] at hk; omega
 unfold reqIts tailIts
 rcases h' with h | h | h | h | h | h | h | h | h | h | h | h | h | h <;> simp [h, hasN, hasO, hasW, hasS, hasQ, hasR, hasG, hasT]
theorem cps_step (l : List Cp) (k : Nat) (d : Cp) (h : l[k]? = some d) : (l.take (k + 1)).flatMap cpIts = (l.take k).flatMap cpIts ++ cpIts d := by simp [List.take_add_one, h]
theorem cleanQ_bad (y : Cm) (hk : isK y.kind = true) (hc : cleanC y = y) (hT : hasT y.kind = false) : badC y = false := by
 have h : y.thens = [] ∧ y.elses = [] := by
  rw [← hc]
  simp [cleanC, hk, onlyC, hT]
 simp [badC, h.1, h.2]
theorem dasIts_len (l : List Da) : (dasIts l).length ≤ 1 + 5 * l.length := by
 rw [dasIts, List.length_cons]
 induction l with
 | nil => simp
 | cons d l ih =>
  have := daIts_len d
  rw [List.flatMap_cons, List.length_append, List.length_cons]
  omega
def cright : Nat → Code → Code
 | 0, c => c
 | n + 1, .seq _ b => cright n b
 | _, c => c
section
variable {u2 u3 u6 u7 u8 u9 u10 u11 u12 u13 u14 u15 u16 u17 u18 u19 u20 u21 u22 u23 u24 u25 u26 u27 u28 u29 u30 u31 u32 u33 u34 u35 u36 u37 u38 u39 u40 u41 u42 u43 u44 u45 u46 u47 u48 u49 u50 u51 u52 u53 u54 u55 u56 u57 u58 u59 u60 u61 u62 u63 u64 u65 u66 u67 u68 u69 u70 u71 u72 u73 u74 u75 u76 u77 u78 u79 u80 u81 u82 u83 u84 u85 u86 u87 u88 u89 u90 u91 u92 u93 u94 u95 u96 u97 u98 u99 u100 u101 u102 u103 u104 u105 u106 u107 u108 u109 u110 u111 u112 u113 u114 u115 u116 u117 u118 u119 u120 u121 u122 u123 u124 u125 u126 u127 u128 u129 u130 u131 u132 u133 u134 u135 u136 u137 u138 u139 u140 u141 u142 u143 u144 u145 u146 u147 u148 u149 u150 u151 u152 u153 u154 u155 u156 u157 u158 u159 u160 u161 u162 u163 u164 u165 u166 u167 u168 u169 u170 u171 u172 u173 u174 u175 u176 u177 u178 u179 u180 u181 u182 u183 u184 u185 u186 u187 u188 u189 u190 u191 u192 u193 u194 u195 u196 u197 u198 u199 u200 u201 u202 u203 u204 u205 u206 u207 u208 u209 u210 u211 u212 u213 u214 u215 u216 u217 u218 u219 u220 u221 u222 u223 u224 u225 u226 u227 u228 u229 u230 u231 u232 u233 u234 u235 u236 u237 u238 u239 u240 u241 u242 u243 u244 u245 u246 u247 u248 u249 u250 u251 u252 u253 u254 u255 u256 : Value}
set_option maxHeartbeats 16000000 in
theorem rby9 {x y : Cm} {a1 a2 a3 d1 d2 d3 : Option Addr} {c1 c2 c3 e1 e2 e3 : Nat} {w V1 : World} {b : Nat} {V9q : World} {a9q : Option Addr} {n9q c9q : Nat} {L9q : List It} (H2 : Hid (Blk V1 b 44 (cmc y (.slice d1 y.ifs.length e1) (.slice d2 y.thens.length e2) (.slice d3 y.elses.length e3)).toArray ∧ RdC V1 y d1 d2 d3 ∧ Step [] [] w V1)) (HK : Hid (isK y.kind = true ∧ cleanC y = y ∧ refBq x = refB y)) (HBY : Hid (CmB y)) (HLY : Hid (LenS y)) (HID : Hid (okIds y.client y.seq = true)) (hn9 : n9q ≤ 20000000) (HE9 : Hid (L9q = [nI y.kind, nI y.client, nI y.seq, tI y.token] ++ (if (hasN y.kind) = true then [tI y.name] else []) ++ (if (hasO y.kind) = true then [tI y.other] else []) ++ (if (hasW y.kind) = true then [tI y.word] else []) ++ (if (hasS y.kind) = true then [tI y.salt] else []) ++ (if (hasQ y.kind) = true then [nI y.bytes, nI y.keys] else []) ++ (if (hasR y.kind) = true then [nI y.rev] else []) ++ (if ((hasG y.kind || decide (y.kind = 12))) = true then [tI y.gf, tI y.gt] else []) ++ (if (hasG y.kind) = true then [fI y.gr, fI y.gw] else []) ++ (if (hasT y.kind) = true then cpsIts y.ifs ++ (dasIts y.thens ++ dasIts y.elses) else []))) (HBD : Hid (badC y = false)) (E9 : Hid (Ib V1 V9q b 44 (cmc y (.slice d1 y.ifs.length e1) (.slice d2 y.thens.length e2) (.slice d3 y.elses.length e3)).toArray a9q n9q c9q L9q)) :
  Code.wp Try.prog (cright 13 (Try.f44.body.getD .skip)) (bodyPost Try.prog Try.f44 (fun e w' => e = .returned (.tuple #[Str (refBq x).1, .int .i64 (refBq x).2]) ∧ Step [] [] w w')) { tmps := #[cmV x (.slice a1 x.ifs.length c1) (.slice a2 x.thens.length c2) (.slice a3 x.elses.length c3), .pointer (some ⟨b, 0, none⟩), u2, u3, .bool true, .slice a9q n9q c9q, u6, u7, u8, u9, u10, u11, u12, u13, u14, u15, u16, u17, u18, u19, u20, u21, u22, u23, u24, u25, u26, u27, u28, u29, u30, u31, u32, u33, u34, u35, u36, u37, u38, u39, u40, u41, u42, u43, u44, u45, u46, u47, u48, u49, u50, u51, u52, u53, u54, u55, u56, u57, u58, u59, u60, u61, u62, u63, u64, u65, u66, u67, u68, u69, u70, u71, u72, u73, u74, u75, u76, u77, u78, u79, u80, u81, u82, u83, u84, u85, u86, u87, u88, u89, u90, u91, u92, u93, u94, u95, u96, u97, u98, u99, u100, u101, u102, u103, u104, u105, u106, u107, u108, u109, u110, u111, u112, u113, u114, u115, u116, u117, u118, u119, u120, u121, u122, u123, u124, u125, u126, u127, u128, u129, u130, u131, u132, u133, u134, u135, u136, u137, u138, u139, u140, u141, u142, u143, u144, u145, u146, u147, u148, u149, u150, u151, u152, u153, u154, u155, u156, u157, u158, u159, u160, u161, u162, u163, u164, u165, u166, u167, u168, u169, u170, u171, u172, u173, u174, u175, u176, u177, u178, u179, u180, u181, u182, u183, u184, u185, u186, u187, u188, u189, u190, u191, u192, u193, u194, u195, u196, u197, u198, u199, u200, u201, u202, u203, u204, u205, u206, u207, u208, u209, u210, u211, u212, u213, u214, u215, u216, u217, u218, u219, u220, u221, u222, u223, u224, u225, u226, u227, u228, u229, u230, u231, u232, u233, u234, u235, u236, u237, u238, u239, u240, u241, u242, u243, u244, u245, u246, u247, u248, u249, u250, u251, u252, u253, u254, u255, u256], defers := [] } V9q := by
 conv => arg 2; whnf
 have HIT : Hid (L9q = reqIts y) := Lib.hid (by rw [cleanQ_eq y HK.out.1 HK.out.2.1, HE9.out])
 have hle := E9.out.il.len
 have HLE := Lib.hid hle
 clear hle
 go_upto_block 2 with fail
 go_cut [] (fun wx => Hid (Ib V1 wx b 44 (cmc y (.slice d1 y.ifs.length e1) (.slice d2 y.thens.length e2) (.slice d3 y.elses.length e3)).toArray a9q n9q c9q L9q ∧ L9q.any badI = false))
 case first =>
  go_wp2_with fail
  go_loopw [11] (fun i W => ∃ k : Nat, k ≤ n9q ∧ i = .int .i64 k ∧ Hid (W = V9q ∧ (L9q.take k).any badI = false)) (fun i _ => n9q - (intOf i).toNat)
  case atStart => exact ⟨0, by omega, rfl, Lib.hid ⟨rfl, by simp⟩⟩
  case round =>
   rename World => W
   obtain ⟨k, hk, rfl, HW⟩ := hrel
   obtain ⟨ew, hno⟩ := HW.out
   subst ew
   have HNO := Lib.hid hno
   clear HW hno
   by_cases hlt : k < n9q
   ·have hlt' : (k : Int) < n9q := by omega
    obtain ⟨q, hq⟩ : ∃ q, L9q[k]? = some q := ⟨_, List.getElem?_eq_getElem (by rw [← HLE.out]; exact hlt)⟩
    have hrd := E9.out.row.rd
    obtain ⟨g, off, hsa⟩ := hrd.some_ (by omega)
    subst hsa
    have ci := rd_item hrd hq
    have gl := World.block_lt_of_cell? _ _ ci.1
    simp only at gl
    have HX := Lib.hid hq
    clear hq hrd
    by_cases u0 : q.k = 0
    ·have u0d : (q.k == 0) = true := by simp [u0]
     by_cases u1 : q.n < 0
     ·have HBI : Hid (badI q = true) := Lib.hid (by simp [badI, u0, u1])
      clear u0
      have HV : Hid (refBq x = ([], 1)) := Lib.hid (by rw [HK.out.2.2, refB, if_neg (by rw [HID.out]; simp), if_neg (by rw [HBD.out]; simp), if_pos (by rw [← HIT.out]; exact List.any_eq_true.2 ⟨q, List.mem_of_getElem? HX.out, HBI.out⟩)])
      go_wp2_with fail
      exact bodyPost_ret (results_tmp2 rfl _ _ _) rfl ⟨by rw [HV.out]; rfl, (H2.out.2.2.trans (E9.out.st.drop (by simp)))⟩
     ·have u1d : decide (q.n < 0) = false := decide_eq_false u1
      by_cases u2 : (4611686018427387903 : Int) < q.n
      ·have HBI : Hid (badI q = true) := Lib.hid (by simp [badI, u0, u2])
       clear u0
       have HV : Hid (refBq x = ([], 1)) := Lib.hid (by rw [HK.out.2.2, refB, if_neg (by rw [HID.out]; simp), if_neg (by rw [HBD.out]; simp), if_pos (by rw [← HIT.out]; exact List.any_eq_true.2 ⟨q, List.mem_of_getElem? HX.out, HBI.out⟩)])
       go_wp2_with fail
       exact bodyPost_ret (results_tmp2 rfl _ _ _) rfl ⟨by rw [HV.out]; rfl, (H2.out.2.2.trans (E9.out.st.drop (by simp)))⟩
      ·have u2d : decide ((4611686018427387903 : Int) < q.n) = false := decide_eq_false u2
       have HNN : Hid ((L9q.take (k + 1)).any badI = false) := Lib.hid (by rw [takeQ_any _ _ _ _ HX.out, HNO.out, Bool.false_or]; simp [badI]; omega)
       clear u0 u1 u2
       go_wp2_with fail
       go_roundw
       case rel => exact ⟨k + 1, by omega, by go_num, Lib.hid ⟨by first | rfl | trivial, HNN.out⟩⟩
       case measure => simp [intOf]; omega
    ·have u0d : (q.k == 0) = false := by simp [u0]
     have HNN : Hid ((L9q.take (k + 1)).any badI = false) := Lib.hid (by rw [takeQ_any _ _ _ _ HX.out, HNO.out, Bool.false_or]; simp [badI, u0])
     clear u0
     go_wp2_with fail
     go_roundw
     case rel => exact ⟨k + 1, by omega, by go_num, Lib.hid ⟨by first | rfl | trivial, HNN.out⟩⟩
     case measure => simp [intOf]; omega
   ·have hnl : ¬ (k : Int) < n9q := by omega
    obtain rfl : k = n9q := by omega
    go_wp2_with fail
    go_meet
    exact Lib.hid ⟨E9.out, by have hz := HNO.out; rw [List.take_of_length_le (by rw [← HLE.out]; exact Nat.le_refl _)] at hz; exact hz⟩
 case rest =>
  rename World => Vz
  have HZ := hcut
  clear hcut
  have HWR : Hid (refBq x = (if (written [] (reqIts y)).2 = 0 then (if 8192 < (written [] (reqIts y)).1.length then ([], 2) else ((written [] (reqIts y)).1, 0)) else ([], (written [] (reqIts y)).2))) := Lib.hid (by rw [HK.out.2.2, refB, if_neg (by rw [HID.out]; simp), if_neg (by rw [HBD.out]; simp), if_neg (by rw [← HIT.out, HZ.out.2]; simp)])
  have hw := written_any L9q a9q c9q Vz (by rw [← HLE.out]; omega) (by have hz := HZ.out.1.row.rd; rw [HLE.out] at hz; exact hz) (by rw [HIT.out]; exact reqIts_ok y HBY.out HLY.out HK.out.1)
  rw [← HLE.out] at hw
  go_wp2_with fail
  refine hw.mono ?_
  rintro e Y9 ⟨rfl, kk⟩
  have H9 : Hid (Step [] [] w Y9) := Lib.hid ((H2.out.2.2.trans (HZ.out.1.st.drop (by simp))).trans kk)
  clear kk hw
  rw [HIT.out]
  obtain ⟨⟨ws, we⟩, hwe⟩ : ∃ p, p = written [] (reqIts y) := ⟨_, rfl⟩
  rw [← hwe] at HWR ⊢
  clear hwe
  by_cases h0 : we = 0
  ·subst h0
   by_cases h8 : (8192 : Int) < ws.length
   ·have HV : Hid (refBq x = ([], 2)) := Lib.hid (by rw [HWR.out]; simp only [if_true]; rw [if_pos (by omega)])
    go_wp2_with fail
    exact bodyPost_ret (results_tmp2 rfl _ _ _) rfl ⟨by rw [HV.out]; rfl, H9.out⟩
   ·have HV : Hid (refBq x = (ws, 0)) := Lib.hid (by rw [HWR.out]; simp only [if_true]; rw [if_neg (by omega)])
    go_wp2_with fail
    exact bodyPost_ret (results_tmp2 rfl _ _ _) rfl ⟨by rw [HV.out]; rfl, H9.out⟩
  ·have HV : Hid (refBq x = ([], we)) := Lib.hid (by rw [HWR.out]; simp only; rw [if_neg h0])
   have h0d : (we == 0) = false := by simp [h0]
   go_wp2_with fail
   exact bodyPost_ret (results_tmp2 rfl _ _ _) rfl ⟨by rw [HV.out]; rfl, H9.out⟩
set_option maxHeartbeats 16000000 in
theorem rby8 {x y : Cm} {a1 a2 a3 d1 d2 d3 : Option Addr} {c1 c2 c3 e1 e2 e3 : Nat} {w V1 : World} {b : Nat} {V8q : World} {a8q : Option Addr} {n8q c8q : Nat} {L8q : List It} (H2 : Hid (Blk V1 b 44 (cmc y (.slice d1 y.ifs.length e1) (.slice d2 y.thens.length e2) (.slice d3 y.elses.length e3)).toArray ∧ RdC V1 y d1 d2 d3 ∧ Step [] [] w V1)) (HK : Hid (isK y.kind = true ∧ cleanC y = y ∧ refBq x = refB y)) (HBY : Hid (CmB y)) (HLY : Hid (LenS y)) (HID : Hid (okIds y.client y.seq = true)) (hn8 : n8q ≤ 15) (HE8 : Hid (L8q = [nI y.kind, nI y.client, nI y.seq, tI y.token] ++ (if (hasN y.kind) = true then [tI y.name] else []) ++ (if (hasO y.kind) = true then [tI y.other] else []) ++ (if (hasW y.kind) = true then [tI y.word] else []) ++ (if (hasS y.kind) = true then [tI y.salt] else []) ++ (if (hasQ y.kind) = true then [nI y.bytes, nI y.keys] else []) ++ (if (hasR y.kind) = true then [nI y.rev] else []) ++ (if ((hasG y.kind || decide (y.kind = 12))) = true then [tI y.gf, tI y.gt] else []) ++ (if (hasG y.kind) = true then [fI y.gr, fI y.gw] else []))) (E8 : Hid (Ib V1 V8q b 44 (cmc y (.slice d1 y.ifs.length e1) (.slice d2 y.thens.length e2) (.slice d3 y.elses.length e3)).toArray a8q n8q c8q L8q)) :
  Code.wp Try.prog (cright 12 (Try.f44.body.getD .skip)) (bodyPost Try.prog Try.f44 (fun e w' => e = .returned (.tuple #[Str (refBq x).1, .int .i64 (refBq x).2]) ∧ Step [] [] w w')) { tmps := #[cmV x (.slice a1 x.ifs.length c1) (.slice a2 x.thens.length c2) (.slice a3 x.elses.length c3), .pointer (some ⟨b, 0, none⟩), u2, u3, .bool true, .slice a8q n8q c8q, u6, u7, u8, u9, u10, u11, u12, u13, u14, u15, u16, u17, u18, u19, u20, u21, u22, u23, u24, u25, u26, u27, u28, u29, u30, u31, u32, u33, u34, u35, u36, u37, u38, u39, u40, u41, u42, u43, u44, u45, u46, u47, u48, u49, u50, u51, u52, u53, u54, u55, u56, u57, u58, u59, u60, u61, u62, u63, u64, u65, u66, u67, u68, u69, u70, u71, u72, u73, u74, u75, u76, u77, u78, u79, u80, u81, u82, u83, u84, u85, u86, u87, u88, u89, u90, u91, u92, u93, u94, u95, u96, u97, u98, u99, u100, u101, u102, u103, u104, u105, u106, u107, u108, u109, u110, u111, u112, u113, u114, u115, u116, u117, u118, u119, u120, u121, u122, u123, u124, u125, u126, u127, u128, u129, u130, u131, u132, u133, u134, u135, u136, u137, u138, u139, u140, u141, u142, u143, u144, u145, u146, u147, u148, u149, u150, u151, u152, u153, u154, u155, u156, u157, u158, u159, u160, u161, u162, u163, u164, u165, u166, u167, u168, u169, u170, u171, u172, u173, u174, u175, u176, u177, u178, u179, u180, u181, u182, u183, u184, u185, u186, u187, u188, u189, u190, u191, u192, u193, u194, u195, u196, u197, u198, u199, u200, u201, u202, u203, u204, u205, u206, u207, u208, u209, u210, u211, u212, u213, u214, u215, u216, u217, u218, u219, u220, u221, u222, u223, u224, u225, u226, u227, u228, u229, u230, u231, u232, u233, u234, u235, u236, u237, u238, u239, u240, u241, u242, u243, u244, u245, u246, u247, u248, u249, u250, u251, u252, u253, u254, u255, u256], defers := [] } V8q := by
 conv => arg 2; whnf
 have kc := E8.out.blk.cell
 have k3 := kc 3
 clear kc
 simp only [cmc, List.getElem?_toArray, List.getElem?_cons_zero, List.getElem?_cons_succ] at k3
 have kl := E8.out.blk.lt
 go_wp2_with fail
 refine (hasT_call y.kind _ HK.out.1).mono ?_
 rintro e X8 ⟨rfl, kk⟩
 have F8 := Lib.hid (E8.out.quiet kk)
 clear kk k3 kl
 go_upto_if 148 with fail
 go_cut [5] (fun v wx => ∃ (a : Option Addr) (n c : Nat) (L : List It), v = .slice a n c ∧ n ≤ 20000000 ∧ Hid (L = L8q ++ (if (hasT y.kind) = true then cpsIts y.ifs ++ (dasIts y.thens ++ dasIts y.elses) else []) ∧ badC y = false) ∧ Hid (Ib V1 wx b 44 (cmc y (.slice d1 y.ifs.length e1) (.slice d2 y.thens.length e2) (.slice d3 y.elses.length e3)).toArray a n c L))
 case first =>
  cases hN : (hasT y.kind) with
  | false =>
   have HN := Lib.hid hN
   clear hN
   go_wp2_with fail
   go_meet
   exact ⟨_, _, _, L8q, rfl, by omega, Lib.hid ⟨by rw [HN.out]; simp, cleanQ_bad y HK.out.1 HK.out.2.1 HN.out⟩, F8⟩
  | true =>
   have HN := Lib.hid hN
   clear hN
   obtain ⟨i0, hi, hz0, hz1, hz2⟩ := info_parts Try.info_item
   have HI := Lib.hid (And.intro hi (And.intro hz0 (And.intro hz1 hz2)))
   clear hi hz0 hz1 hz2
   have hyi : y.ifs.length ≤ 1048576 := HLY.out.i
   have hyt : y.thens.length ≤ 1048576 := HLY.out.t
   have hye : y.elses.length ≤ 1048576 := HLY.out.e
   have pc := F8.out.blk.cell
   have p15 := pc 15
   clear pc
   simp only [cmc, List.getElem?_toArray, List.getElem?_cons_zero, List.getElem?_cons_succ] at p15
   have pl := F8.out.blk.lt
   go_wp2_with fail
   refine (rnm_any y.ifs.length _).mono ?_
   rintro e X27 ⟨rfl, kk⟩
   have C27 := Lib.hid (F8.out.quiet kk)
   clear kk p15 pl
   obtain ⟨g28, hg⟩ : ∃ g, g = X27.heap.size := ⟨_, rfl⟩
   obtain ⟨Y28, hW⟩ : ∃ Y, Y = X27.alloc (.cells #[.int .i64 0, .int .i64 (y.ifs.length : Int), .string ⟨#[]⟩, .bool false] 88) := ⟨_, rfl⟩
   have B28 : Hid (Ib V1 Y28 b 44 (cmc y (.slice d1 y.ifs.length e1) (.slice d2 y.thens.length e2) (.slice d3 y.elses.length e3)).toArray a8q n8q c8q L8q ∧ Rd Y28 4 (some ⟨g28, 0, none⟩) 1 (itcs [nI (y.ifs.length : Int)])) := Lib.hid (by rw [hW, hg]; exact ⟨C27.out.alloc _, rd_blk' (xs := itcs [nI (y.ifs.length : Int)]) (Blk.new X27 88 _) 4 1 rfl⟩)
   have HY28 := Lib.hid hW
   have HG28 := Lib.hid hg
   clear hW hg
   go_upto_region 23 with (at_builtin; rw [show X27.heap.size = g28 from HG28.out.symm, show X27.alloc (.cells #[.int .i64 0, .int .i64 (y.ifs.length : Int), .string ⟨#[]⟩, .bool false] 88) = Y28 from HY28.out.symm]; refine wpList_append_row rfl (.tmp 149) (.tmp 154) 89 89 rfl 88 i0 _ 4 40 Try.underlying89 HI.out.1 HI.out.2.1 HI.out.2.2.1 HI.out.2.2.2 rfl rfl B28.out.1.row rfl (Src.rd (n := 1) 89 88 Try.underlying89 B28.out.2 (itcs_one _)) (by unfold maxLen; omega) (by omega) (by omega) ?_; intro a28 c28 w28 hr st; have A28 : Hid (Ib V1 w28 b 44 (cmc y (.slice d1 y.ifs.length e1) (.slice d2 y.thens.length e2) (.slice d3 y.elses.length e3)).toArray a28 (n8q + 1) c28 (L8q ++ [nI (y.ifs.length : Int)])) := Lib.hid (B28.out.1.app hr st); clear hr st)
   clear HY28 HG28 C27 B28
   have U0 : Hid (Ib V1 w28 b 44 (cmc y (.slice d1 y.ifs.length e1) (.slice d2 y.thens.length e2) (.slice d3 y.elses.length e3)).toArray a28 (n8q + 1 + 4 * 0) c28 (L8q ++ (nI y.ifs.length :: (y.ifs.take 0).flatMap cpIts))) := Lib.hid (by simpa using A28.out)
   clear A28
   go_upto_block 0 with fail
   go_cut [5] (fun v wx => ∃ (a : Option Addr) (c : Nat), v = .slice a (n8q + 1 + 4 * y.ifs.length) c ∧ Hid (Ib V1 wx b 44 (cmc y (.slice d1 y.ifs.length e1) (.slice d2 y.thens.length e2) (.slice d3 y.elses.length e3)).toArray a (n8q + 1 + 4 * y.ifs.length) c (L8q ++ cpsIts y.ifs)))
   case first =>
    go_wp2_with fail
    go_loopw [5, 6] (fun o i W => ∃ (k : Nat) (a : Option Addr) (c : Nat), k ≤ y.ifs.length ∧ i = .int .i64 k ∧ o = .slice a (n8q + 1 + 4 * k) c ∧ Hid (Ib V1 W b 44 (cmc y (.slice d1 y.ifs.length e1) (.slice d2 y.thens.length e2) (.slice d3 y.elses.length e3)).toArray a (n8q + 1 + 4 * k) c (L8q ++ (nI y.ifs.length :: (y.ifs.take k).flatMap cpIts)))) (fun _ i _ => y.ifs.length - (intOf i).toNat)
    case atStart => exact ⟨0, _, _, by omega, rfl, rfl, U0⟩
    case round =>
     clear U0
     rename World => W
     obtain ⟨k, ak, ck, hk, rfl, rfl, HW⟩ := hrel
     have zc := HW.out.blk.cell
     have z15 := zc 15
     clear zc
     simp only [cmc, List.getElem?_toArray, List.getElem?_cons_zero, List.getElem?_cons_succ] at z15
     have zl := HW.out.blk.lt
     by_cases hlt : k < y.ifs.length
     ·have hlt' : (k : Int) < y.ifs.length := by omega
      obtain ⟨d, hd⟩ : ∃ d, y.ifs[k]? = some d := ⟨_, List.getElem?_eq_getElem hlt⟩
      have HX := Lib.hid hd
      clear hd
      have hrd := H2.out.2.1.i.step0 HW.out.st
      obtain ⟨g, off, hsa⟩ := hrd.some_ (by omega)
      have HSA := Lib.hid hsa
      have HRD := Lib.hid hrd
      clear hrd hsa
      go_upto_region 26 with fail
      clear z15 zl
      have D29 := Lib.hid (HW.out.quiet ((Step.refl [] _).drew))
      refine wp_region_held_drew (S := fun V => Hid (Blk V b 44 (cmc y (.slice d1 y.ifs.length e1) (.slice d2 y.thens.length e2) (.slice d3 y.elses.length e3)).toArray ∧ Rd V 4 d1 y.ifs.length (cpcs y.ifs))) (by kernel_rfl) (Lib.hid ⟨D29.out.blk, H2.out.2.1.i.step0 D29.out.st⟩) (fun hHeld => ?_)
      refine wpAnyH_take (i := 0) (v := ?_) rfl (by kernel_rfl) (by kernel_rfl) (by kernel_rfl) (fun _ _ _ h => h) (Or.inl ⟨by rfl, ?_⟩) hHeld ?_
      rotate_left
      ·intro w hSw1
       try dsimp only at hSw1
       go_simp
       try (with_reducible rfl)
      try simp only [Act.put, LsA, LsB, LsC, LsD, LsE, LsF]
      refine wpAnyH_take (i := 1) (v := ?_) rfl (by kernel_rfl) (by kernel_rfl) (by kernel_rfl) (fun _ _ _ h => h) (Or.inl ⟨by rfl, ?_⟩) hHeld ?_
      rotate_left
      ·intro w hSw1
       try dsimp only at hSw1
       go_simp
       try (with_reducible rfl)
      try simp only [Act.put, LsA, LsB, LsC, LsD, LsE, LsF]
      refine wpAnyH_take (i := 2) (v := ?_) rfl (by kernel_rfl) (by kernel_rfl) (by kernel_rfl) (fun _ _ _ h => h) (Or.inl ⟨by rfl, ?_⟩) hHeld ?_
      rotate_left
      ·intro w hSw1
       have tc := hSw1.out.1.cell 15
       have tl := hSw1.out.1.lt
       simp only [cmc, List.getElem?_toArray, List.getElem?_cons_zero, List.getElem?_cons_succ] at tc
       rw [HSA.out] at tc
       have r2 := hSw1.out.2
       rw [HSA.out] at r2
       have cd := rd_cp r2 HX.out
       have gl := World.block_lt_of_cell? _ _ cd.1
       simp only at gl
       go_simp
       try (with_reducible rfl)
      try simp only [Act.put, LsA, LsB, LsC, LsD, LsE, LsF]
      refine wpAnyH_take (i := 3) (v := ?_) rfl (by kernel_rfl) (by kernel_rfl) (by kernel_rfl) (fun _ _ _ h => h) (Or.inl ⟨by rfl, ?_⟩) hHeld ?_
      rotate_left
      ·intro w hSw1
       try dsimp only at hSw1
       go_simp
       try (with_reducible rfl)
      try simp only [Act.put, LsA, LsB, LsC, LsD, LsE, LsF]
      refine wpAnyH_take (i := 4) (v := ?_) rfl (by kernel_rfl) (by kernel_rfl) (by kernel_rfl) (fun _ _ _ h => h) (Or.inl ⟨by rfl, ?_⟩) hHeld ?_
      rotate_left
      ·intro w hSw1
       have tc := hSw1.out.1.cell 15
       have tl := hSw1.out.1.lt
       simp only [cmc, List.getElem?_toArray, List.getElem?_cons_zero, List.getElem?_cons_succ] at tc
       rw [HSA.out] at tc
       have r2 := hSw1.out.2
       rw [HSA.out] at r2
       have cd := rd_cp r2 HX.out
       have gl := World.block_lt_of_cell? _ _ cd.1
       simp only at gl
       go_simp
       try (with_reducible rfl)
      try simp only [Act.put, LsA, LsB, LsC, LsD, LsE, LsF]
      refine wpAnyH_take (i := 5) (v := ?_) rfl (by kernel_rfl) (by kernel_rfl) (by kernel_rfl) (fun _ _ _ h => h) (Or.inl ⟨by rfl, ?_⟩) hHeld ?_
      rotate_left
      ·intro w hSw1
       try dsimp only at hSw1
       go_simp
       try (with_reducible rfl)
      try simp only [Act.put, LsA, LsB, LsC, LsD, LsE, LsF]
      refine wpAnyH_take (i := 6) (v := ?_) rfl (by kernel_rfl) (by kernel_rfl) (by kernel_rfl) (fun _ _ _ h => h) (Or.inl ⟨by rfl, ?_⟩) hHeld ?_
      rotate_left
      ·intro w hSw1
       have tc := hSw1.out.1.cell 15
       have tl := hSw1.out.1.lt
       simp only [cmc, List.getElem?_toArray, List.getElem?_cons_zero, List.getElem?_cons_succ] at tc
       rw [HSA.out] at tc
       have r2 := hSw1.out.2
       rw [HSA.out] at r2
       have cd := rd_cp r2 HX.out
       have gl := World.block_lt_of_cell? _ _ cd.1
       simp only at gl
       go_simp
       try (with_reducible rfl)
      try simp only [Act.put, LsA, LsB, LsC, LsD, LsE, LsF]
      refine wpAnyH_take (i := 8) (v := ?_) rfl (by kernel_rfl) (by kernel_rfl) (by kernel_rfl) (fun _ _ _ h => h) (Or.inl ⟨by rfl, ?_⟩) hHeld ?_
      rotate_left
      ·intro w hSw1
       try dsimp only at hSw1
       go_simp
       try (with_reducible rfl)
      try simp only [Act.put, LsA, LsB, LsC, LsD, LsE, LsF]
      refine wpAnyH_take (i := 9) (v := ?_) rfl (by kernel_rfl) (by kernel_rfl) (by kernel_rfl) (fun _ _ _ h => h) (Or.inl ⟨by rfl, ?_⟩) hHeld ?_
      rotate_left
      ·intro w hSw1
       have tc := hSw1.out.1.cell 15
       have tl := hSw1.out.1.lt
       simp only [cmc, List.getElem?_toArray, List.getElem?_cons_zero, List.getElem?_cons_succ] at tc
       rw [HSA.out] at tc
       have r2 := hSw1.out.2
       rw [HSA.out] at r2
       have cd := rd_cp r2 HX.out
       have gl := World.block_lt_of_cell? _ _ cd.1
       simp only at gl
       go_simp
       try (with_reducible rfl)
      try simp only [Act.put, LsA, LsB, LsC, LsD, LsE, LsF]
      refine wpAnyH_take (i := 10) (v := ?_) rfl (by kernel_rfl) (by kernel_rfl) (by kernel_rfl) (fun _ _ _ h => h) (Or.inl ⟨by rfl, ?_⟩) hHeld ?_
      rotate_left
      ·intro w hSw1
       try dsimp only at hSw1
       go_simp
       try (with_reducible rfl)
      try simp only [Act.put, LsA, LsB, LsC, LsD, LsE, LsF]
      refine wpAnyH_take (i := 11) (v := ?_) rfl (by kernel_rfl) (by kernel_rfl) (by kernel_rfl) (fun _ _ _ h => h) (Or.inl ⟨by rfl, ?_⟩) hHeld ?_
      rotate_left
      ·intro w hSw1
       have tc := hSw1.out.1.cell 15
       have tl := hSw1.out.1.lt
       simp only [cmc, List.getElem?_toArray, List.getElem?_cons_zero, List.getElem?_cons_succ] at tc
       rw [HSA.out] at tc
       have r2 := hSw1.out.2
       rw [HSA.out] at r2
       have cd := rd_cp r2 HX.out
       have gl := World.block_lt_of_cell? _ _ cd.1
       simp only at gl
       go_simp
       try (with_reducible rfl)
      try simp only [Act.put, LsA, LsB, LsC, LsD, LsE, LsF]
      refine wpAnyH_take (i := 12) (v := ?_) rfl (by kernel_rfl) (by kernel_rfl) (by kernel_rfl) (fun _ _ _ h => h) (Or.inl ⟨by rfl, ?_⟩) hHeld ?_
      rotate_left
      ·intro w hSw1
       try dsimp only at hSw1
       go_simp
       try (with_reducible rfl)
      try simp only [Act.put, LsA, LsB, LsC, LsD, LsE, LsF]
      refine wpAnyH_take (i := 13) (v := ?_) rfl (by kernel_rfl) (by kernel_rfl) (by kernel_rfl) (fun _ _ _ h => h) (Or.inl ⟨by rfl, ?_⟩) hHeld ?_
      rotate_left
      ·intro w hSw1
       have tc := hSw1.out.1.cell 15
       have tl := hSw1.out.1.lt
       simp only [cmc, List.getElem?_toArray, List.getElem?_cons_zero, List.getElem?_cons_succ] at tc
       rw [HSA.out] at tc
       have r2 := hSw1.out.2
       rw [HSA.out] at r2
       have cd := rd_cp r2 HX.out
       have gl := World.block_lt_of_cell? _ _ cd.1
       simp only at gl
       go_simp
       try (with_reducible rfl)
      try simp only [Act.put, LsA, LsB, LsC, LsD, LsE, LsF]
      refine wpAnyH_take (i := 15) (v := ?_) rfl (by kernel_rfl) (by kernel_rfl) (by kernel_rfl) (fun _ _ _ h => h) (Or.inl ⟨by rfl, ?_⟩) hHeld ?_
      rotate_left
      ·intro w hSw1
       try dsimp only at hSw1
       go_simp
       try (with_reducible rfl)
      try simp only [Act.put, LsA, LsB, LsC, LsD, LsE, LsF]
      refine wpAnyH_take (i := 16) (v := ?_) rfl (by kernel_rfl) (by kernel_rfl) (by kernel_rfl) (fun _ _ _ h => h) (Or.inl ⟨by rfl, ?_⟩) hHeld ?_
      rotate_left
      ·intro w hSw1
       have tc := hSw1.out.1.cell 15
       have tl := hSw1.out.1.lt
       simp only [cmc, List.getElem?_toArray, List.getElem?_cons_zero, List.getElem?_cons_succ] at tc
       rw [HSA.out] at tc
       have r2 := hSw1.out.2
       rw [HSA.out] at r2
       have cd := rd_cp r2 HX.out
       have gl := World.block_lt_of_cell? _ _ cd.1
       simp only at gl
       go_simp
       try (with_reducible rfl)
      try simp only [Act.put, LsA, LsB, LsC, LsD, LsE, LsF]
      refine wpAnyH_take (i := 17) (v := ?_) rfl (by kernel_rfl) (by kernel_rfl) (by kernel_rfl) (fun _ _ _ h => h) (Or.inl ⟨by rfl, ?_⟩) hHeld ?_
      rotate_left
      ·intro w hSw1
       try dsimp only at hSw1
       go_simp
       try (with_reducible rfl)
      try simp only [Act.put, LsA, LsB, LsC, LsD, LsE, LsF]
      refine wpAnyH_take (i := 18) (v := ?_) rfl (by kernel_rfl) (by kernel_rfl) (by kernel_rfl) (fun _ _ _ h => h) (Or.inl ⟨by rfl, ?_⟩) hHeld ?_
      rotate_left
      ·intro w hSw1
       have tc := hSw1.out.1.cell 15
       have tl := hSw1.out.1.lt
       simp only [cmc, List.getElem?_toArray, List.getElem?_cons_zero, List.getElem?_cons_succ] at tc
       rw [HSA.out] at tc
       have r2 := hSw1.out.2
       rw [HSA.out] at r2
       have cd := rd_cp r2 HX.out
       have gl := World.block_lt_of_cell? _ _ cd.1
       simp only at gl
       go_simp
       try (with_reducible rfl)
      try simp only [Act.put, LsA, LsB, LsC, LsD, LsE, LsF]
      refine wpAnyH_take (i := 19) (v := ?_) rfl (by kernel_rfl) (by kernel_rfl) (by kernel_rfl) (fun _ _ _ h => h) (Or.inl ⟨by rfl, ?_⟩) hHeld ?_
      rotate_left
      ·intro w hSw1
       try dsimp only at hSw1
       go_simp
       try (with_reducible rfl)
      try simp only [Act.put, LsA, LsB, LsC, LsD, LsE, LsF]
      refine wpAnyH_take (i := 20) (v := ?_) rfl (by kernel_rfl) (by kernel_rfl) (by kernel_rfl) (fun _ _ _ h => h) (Or.inl ⟨by rfl, ?_⟩) hHeld ?_
      rotate_left
      ·intro w hSw1
       have tc := hSw1.out.1.cell 15
       have tl := hSw1.out.1.lt
       simp only [cmc, List.getElem?_toArray, List.getElem?_cons_zero, List.getElem?_cons_succ] at tc
       rw [HSA.out] at tc
       have r2 := hSw1.out.2
       rw [HSA.out] at r2
       have cd := rd_cp r2 HX.out
       have gl := World.block_lt_of_cell? _ _ cd.1
       simp only at gl
       go_simp
       try (with_reducible rfl)
      try simp only [Act.put, LsA, LsB, LsC, LsD, LsE, LsF]
      refine wpAnyH_take (i := 22) (v := ?_) rfl (by kernel_rfl) (by kernel_rfl) (by kernel_rfl) (fun _ _ _ h => h) (Or.inl ⟨by rfl, ?_⟩) hHeld ?_
      rotate_left
      ·intro w hSw1
       try dsimp only at hSw1
       go_simp
       try (with_reducible rfl)
      try simp only [Act.put, LsA, LsB, LsC, LsD, LsE, LsF]
      refine wpAnyH_take (i := 23) (v := ?_) rfl (by kernel_rfl) (by kernel_rfl) (by kernel_rfl) (fun _ _ _ h => h) (Or.inl ⟨by rfl, ?_⟩) hHeld ?_
      rotate_left
      ·intro w hSw1
       have tc := hSw1.out.1.cell 15
       have tl := hSw1.out.1.lt
       simp only [cmc, List.getElem?_toArray, List.getElem?_cons_zero, List.getElem?_cons_succ] at tc
       rw [HSA.out] at tc
       have r2 := hSw1.out.2
       rw [HSA.out] at r2
       have cd := rd_cp r2 HX.out
       have gl := World.block_lt_of_cell? _ _ cd.1
       simp only at gl
       go_simp
       try (with_reducible rfl)
      try simp only [Act.put, LsA, LsB, LsC, LsD, LsE, LsF]
      refine wpAnyH_take (i := 24) (v := ?_) rfl (by kernel_rfl) (by kernel_rfl) (by kernel_rfl) (fun _ _ _ h => h) (Or.inl ⟨by rfl, ?_⟩) hHeld ?_
      rotate_left
      ·intro w hSw1
       try dsimp only at hSw1
       go_simp
       try (with_reducible rfl)
      try simp only [Act.put, LsA, LsB, LsC, LsD, LsE, LsF]
      refine wpAnyH_take (i := 25) (v := ?_) rfl (by kernel_rfl) (by kernel_rfl) (by kernel_rfl) (fun _ _ _ h => h) (Or.inl ⟨by rfl, ?_⟩) hHeld ?_
      rotate_left
      ·intro w hSw1
       have tc := hSw1.out.1.cell 15
       have tl := hSw1.out.1.lt
       simp only [cmc, List.getElem?_toArray, List.getElem?_cons_zero, List.getElem?_cons_succ] at tc
       rw [HSA.out] at tc
       have r2 := hSw1.out.2
       rw [HSA.out] at r2
       have cd := rd_cp r2 HX.out
       have gl := World.block_lt_of_cell? _ _ cd.1
       simp only at gl
       go_simp
       try (with_reducible rfl)
      try simp only [Act.put, LsA, LsB, LsC, LsD, LsE, LsF]
      refine wpAnyH_take (i := 26) (v := ?_) rfl (by kernel_rfl) (by kernel_rfl) (by kernel_rfl) (fun _ _ _ h => h) (Or.inl ⟨by rfl, ?_⟩) hHeld ?_
      rotate_left
      ·intro w hSw1
       try dsimp only at hSw1
       go_simp
       try (with_reducible rfl)
      try simp only [Act.put, LsA, LsB, LsC, LsD, LsE, LsF]
      refine wpAnyH_take (i := 27) (v := ?_) rfl (by kernel_rfl) (by kernel_rfl) (by kernel_rfl) (fun _ _ _ h => h) (Or.inl ⟨by rfl, ?_⟩) hHeld ?_
      rotate_left
      ·intro w hSw1
       have tc := hSw1.out.1.cell 15
       have tl := hSw1.out.1.lt
       simp only [cmc, List.getElem?_toArray, List.getElem?_cons_zero, List.getElem?_cons_succ] at tc
       rw [HSA.out] at tc
       have r2 := hSw1.out.2
       rw [HSA.out] at r2
       have cd := rd_cp r2 HX.out
       have gl := World.block_lt_of_cell? _ _ cd.1
       simp only at gl
       go_simp
       try (with_reducible rfl)
      try simp only [Act.put, LsA, LsB, LsC, LsD, LsE, LsF]
      refine wpAnyH_ready (rs := [7]) (by kernel_rfl) (by simp) ?_
      refine AllReadyH.cons rfl (fun K hK => ?_) AllReadyH.nil
      go_simp
      refine (rtx_any d.key _).mono ?_; rintro e X30 ⟨rfl, kk⟩; have C30 := Lib.hid (D29.out.quiet kk); clear kk
      go_wp2_with fail
      refine hK.out _ _ (Lib.hid ⟨C30.out.blk, H2.out.2.1.i.step0 C30.out.st⟩) (fun hHeld2 => ?_)
      clear hK K hHeld
      try simp only [Act.put, LsA, LsB, LsC, LsD, LsE, LsF]
      refine wpAnyH_ready (rs := [14]) (by kernel_rfl) (by simp) ?_
      refine AllReadyH.cons rfl (fun K hK => ?_) AllReadyH.nil
      go_simp
      refine (rnm_any d.what _).mono ?_; rintro e X31 ⟨rfl, kk⟩; have C31 := Lib.hid (C30.out.quiet kk); clear kk
      go_wp2_with fail
      refine hK.out _ _ (Lib.hid ⟨C31.out.blk, H2.out.2.1.i.step0 C31.out.st⟩) (fun hHeld3 => ?_)
      clear hK K hHeld2
      try simp only [Act.put, LsA, LsB, LsC, LsD, LsE, LsF]
      refine wpAnyH_ready (rs := [21]) (by kernel_rfl) (by simp) ?_
      refine AllReadyH.cons rfl (fun K hK => ?_) AllReadyH.nil
      go_simp
      refine (rnm_any d.rev _).mono ?_; rintro e X32 ⟨rfl, kk⟩; have C32 := Lib.hid (C31.out.quiet kk); clear kk
      go_wp2_with fail
      refine hK.out _ _ (Lib.hid ⟨C32.out.blk, H2.out.2.1.i.step0 C32.out.st⟩) (fun hHeld4 => ?_)
      clear hK K hHeld3
      try simp only [Act.put, LsA, LsB, LsC, LsD, LsE, LsF]
      refine wpAnyH_ready (rs := [28]) (by kernel_rfl) (by simp) ?_
      refine AllReadyH.cons rfl (fun K hK => ?_) AllReadyH.nil
      go_simp
      refine (rtx_any d.val _).mono ?_; rintro e X33 ⟨rfl, kk⟩; have C33 := Lib.hid (C32.out.quiet kk); clear kk
      go_wp2_with fail
      refine hK.out _ _ (Lib.hid ⟨C33.out.blk, H2.out.2.1.i.step0 C33.out.st⟩) (fun hHeld5 => ?_)
      clear hK K hHeld4
      try simp only [Act.put, LsA, LsB, LsC, LsD, LsE, LsF]
      refine wpAnyH_ready (rs := [29]) (by kernel_rfl) (by simp) ?_
      refine AllReadyH.cons rfl (fun K hK => ?_) AllReadyH.nil
      go_simp; go_wp2_with fail; refine letterQ (K := K) ?_; intro U hU; obtain ⟨g34, hg⟩ : ∃ g, g = X33.heap.size := ⟨_, rfl⟩; have B34 : Hid (Ib V1 U b 44 (cmc y (.slice d1 y.ifs.length e1) (.slice d2 y.thens.length e2) (.slice d3 y.elses.length e3)).toArray ak (n8q + 1 + 4 * k) ck (L8q ++ (nI y.ifs.length :: (y.ifs.take k).flatMap cpIts)) ∧ Rd U 4 (some ⟨g34, 0, none⟩) 4 (itcs [tI d.key, nI d.what, nI d.rev, tI d.val])) := Lib.hid (by rw [hU, hg]; exact ⟨C33.out.alloc _, rd_blk' (xs := itcs [tI d.key, nI d.what, nI d.rev, tI d.val]) (Blk.new X33 88 _) 4 4 rfl⟩); try rw [← hg]; clear hU hg
      refine hK.out _ _ (Lib.hid ⟨B34.out.1.blk, H2.out.2.1.i.step0 B34.out.1.st⟩) (fun hHeld6 => ?_)
      clear hK K hHeld5
      try simp only [Act.put, LsA, LsB, LsC, LsD, LsE, LsF]
      refine wpAnyH_ready (rs := [30]) (by kernel_rfl) (by simp) ?_
      refine AllReadyH.cons rfl (fun K hK => ?_) AllReadyH.nil
      refine step_append_row rfl (.tmp 163) (.tmp 192) 89 89 rfl 88 i0 _ 4 40 Try.underlying89 HI.out.1 HI.out.2.1 HI.out.2.2.1 HI.out.2.2.2 rfl rfl B34.out.1.row rfl (Src.rd (n := 4) 89 88 Try.underlying89 B34.out.2 (itcs_one _)) (by unfold maxLen; omega) (by omega) (by omega) ?_; intro a34 c34 w34 hr st; have A34 : Hid (Ib V1 w34 b 44 (cmc y (.slice d1 y.ifs.length e1) (.slice d2 y.thens.length e2) (.slice d3 y.elses.length e3)).toArray a34 ((n8q + 1 + 4 * k) + 4) c34 ((L8q ++ (nI y.ifs.length :: (y.ifs.take k).flatMap cpIts)) ++ [tI d.key, nI d.what, nI d.rev, tI d.val])) := Lib.hid (B34.out.1.app hr st); clear hr st
      refine hK.out _ _ (Lib.hid ⟨A34.out.blk, H2.out.2.1.i.step0 A34.out.st⟩) (fun hHeld7 => ?_)
      clear hK K hHeld6
      try simp only [Act.put, LsA, LsB, LsC, LsD, LsE, LsF]
      refine wpAnyH_take (i := 31) (v := ?_) rfl (by kernel_rfl) (by kernel_rfl) (by kernel_rfl) (fun _ _ _ h => h) (Or.inl ⟨by rfl, ?_⟩) hHeld7 ?_
      rotate_left
      ·intro w hSw1
       try dsimp only at hSw1
       go_simp
       try (with_reducible rfl)
      try simp only [Act.put, LsA, LsB, LsC, LsD, LsE, LsF]
      refine wpAnyH_done (by kernel_rfl) ?_ _
      go_wp2_with fail
      go_roundw
      case rel => exact ⟨k + 1, _, _, by omega, by go_num, rfl, Lib.hid (by have hz := A34.out; rw [cps_step _ _ _ HX.out]; simpa [cpIts, List.append_assoc, Nat.mul_add, Nat.add_assoc] using hz)⟩
      case measure => simp [intOf]; omega
     ·have hnl : ¬ (k : Int) < y.ifs.length := by omega
      obtain rfl : k = y.ifs.length := by omega
      go_wp2_with fail
      go_meet
      exact ⟨_, _, rfl, Lib.hid (by have hz := HW.out; rw [List.take_length] at hz; exact hz)⟩
   case rest =>
    rename World => Vt
    obtain ⟨at_, ct, rfl, T0⟩ := hcut
    clear U0
    have pc := T0.out.blk.cell
    have p16 := pc 16
    clear pc
    simp only [cmc, List.getElem?_toArray, List.getElem?_cons_zero, List.getElem?_cons_succ] at p16
    have pl := T0.out.blk.lt
    go_wp2_with fail
    refine (ractsQ_any y.thens d2 e2 _ (H2.out.2.1.t.step0 T0.out.st) HLY.out.t).mono ?_
    rintro e Y1 ⟨hc1, kk⟩
    have T1 := Lib.hid (T0.out.quiet kk)
    clear kk p16 pl
    have pc := T1.out.blk.cell
    have p17 := pc 17
    clear pc
    simp only [cmc, List.getElem?_toArray, List.getElem?_cons_zero, List.getElem?_cons_succ] at p17
    have pl := T1.out.blk.lt
    rcases hc1 with ⟨hb1, rfl⟩ | ⟨hb1, q1, g1, rfl, rq1, hf1⟩
    ·skip
     have HV : Hid (refBq x = ([], 1)) := Lib.hid (by rw [HK.out.2.2, refB, if_neg (by rw [HID.out]; simp), if_pos (by rw [badC, hb1]; simp)])
     go_wp2_with fail
     refine (ractsQ_any y.elses d3 e3 _ (H2.out.2.1.e.step0 T1.out.st) HLY.out.e).mono ?_
     rintro e Y2 ⟨hc2, kk⟩
     have T2 := Lib.hid (T1.out.quiet kk)
     clear kk p17 pl
     rcases hc2 with ⟨hb2, rfl⟩ | ⟨hb2, q2, g2, rfl, rq2, hf2⟩
     ·clear hb1 hb2
      go_wp2_with fail
      exact bodyPost_ret (results_tmp2 rfl _ _ _) rfl ⟨by rw [HV.out]; rfl, H2.out.2.2.trans (T2.out.st.drop (by simp))⟩
     ·clear hb1 hb2 rq2 hf2
      go_wp2_with fail
      exact bodyPost_ret (results_tmp2 rfl _ _ _) rfl ⟨by rw [HV.out]; rfl, H2.out.2.2.trans (T2.out.st.drop (by simp))⟩
    ·have HQ1 := Lib.hid rq1
     clear rq1 hf1
     go_wp2_with fail
     refine (ractsQ_any y.elses d3 e3 _ (H2.out.2.1.e.step0 T1.out.st) HLY.out.e).mono ?_
     rintro e Y2 ⟨hc2, kk⟩
     have T2 := Lib.hid (T1.out.quiet kk)
     have HQ1b := Lib.hid (HQ1.out.step0 kk)
     clear kk p17 pl
     rcases hc2 with ⟨hb2, rfl⟩ | ⟨hb2, q2, g2, rfl, rq2, hf2⟩
     ·have HV : Hid (refBq x = ([], 1)) := Lib.hid (by rw [HK.out.2.2, refB, if_neg (by rw [HID.out]; simp), if_pos (by rw [badC, hb2]; simp)])
      clear hb1 hb2
      go_wp2_with fail
      exact bodyPost_ret (results_tmp2 rfl _ _ _) rfl ⟨by rw [HV.out]; rfl, H2.out.2.2.trans (T2.out.st.drop (by simp))⟩
     ·have HQ2 := Lib.hid rq2
      have HF2 : Hid (∀ g ∈ blks q2, g ∉ blks at_) := Lib.hid (fun g hg hm => by have h1 := hf2 g hg; have h2 := T1.out.row.lt g hm; omega)
      clear hf2
      have HBC : Hid (badC y = false) := Lib.hid (by rw [badC, hb1, hb2]; rfl)
      have l1 : (dasIts y.thens).length ≤ 1 + 5 * y.thens.length := dasIts_len _
      have l2 : (dasIts y.elses).length ≤ 1 + 5 * y.elses.length := dasIts_len _
      clear rq2 hb1 hb2
      go_upto_region 31 with fail
      obtain ⟨m1, hm1⟩ : ∃ m, m = (dasIts y.thens).length := ⟨_, rfl⟩
      obtain ⟨m2, hm2⟩ : ∃ m, m = (dasIts y.elses).length := ⟨_, rfl⟩
      rw [← hm1] at HQ1b l1 ⊢
      rw [← hm2] at HQ2 l2 ⊢
      have HM := Lib.hid (And.intro hm1 hm2)
      clear hm1 hm2 HQ1
      go_wp2_with (at_builtin; first | (refine wpList_append_row rfl (.tmp 212) (.tmp 213) 89 89 rfl 88 i0 _ 4 40 Try.underlying89 HI.out.1 HI.out.2.1 HI.out.2.2.1 HI.out.2.2.2 rfl rfl T2.out.row rfl (Src.rd 89 88 Try.underlying89 HQ1b.out (itcs_one _)) (by unfold maxLen; omega) (by omega) (by omega) ?_; intro a9 c9 w9 hr st; have T3 : Hid (Ib V1 w9 b 44 (cmc y (.slice d1 y.ifs.length e1) (.slice d2 y.thens.length e2) (.slice d3 y.elses.length e3)).toArray a9 (n8q + 1 + 4 * y.ifs.length + m1) c9 (L8q ++ cpsIts y.ifs ++ dasIts y.thens)) := Lib.hid (T2.out.app hr st); have T3R := Lib.hid (HQ2.out.step st HF2.out); clear hr st) | (refine wpList_append_row rfl (.tmp 214) (.tmp 215) 89 89 rfl 88 i0 _ 4 40 Try.underlying89 HI.out.1 HI.out.2.1 HI.out.2.2.1 HI.out.2.2.2 rfl rfl T3.out.row rfl (Src.rd 89 88 Try.underlying89 T3R.out (itcs_one _)) (by unfold maxLen; omega) (by omega) (by omega) ?_; intro a10 c10 w10 hr st; have T4 : Hid (Ib V1 w10 b 44 (cmc y (.slice d1 y.ifs.length e1) (.slice d2 y.thens.length e2) (.slice d3 y.elses.length e3)).toArray a10 (n8q + 1 + 4 * y.ifs.length + m1 + m2) c10 (L8q ++ cpsIts y.ifs ++ dasIts y.thens ++ dasIts y.elses)) := Lib.hid (T3.out.app hr st); clear hr st))
      go_meet
      exact ⟨_, _, _, _, rfl, by omega, Lib.hid ⟨by rw [HN.out]; simp [List.append_assoc], HBC.out⟩, T4⟩
 case rest =>
  rename World => V9q
  obtain ⟨a9q, n9q, c9q, L9q, rfl, hn9, HE9, E9⟩ := hcut
  rename ∀ (a : Act) (w : World), Code.wp _ _ _ a w → _ => hK
  refine hK _ _ ?_
  exact rby9 H2 HK HBY HLY HID hn9 (Lib.hid (by rw [HE9.out.1, HE8.out])) (Lib.hid HE9.out.2) E9
set_option maxHeartbeats 16000000 in
theorem rby7 {x y : Cm} {a1 a2 a3 d1 d2 d3 : Option Addr} {c1 c2 c3 e1 e2 e3 : Nat} {w V1 : World} {b : Nat} {V7q : World} {a7q : Option Addr} {n7q c7q : Nat} {L7q : List It} (H2 : Hid (Blk V1 b 44 (cmc y (.slice d1 y.ifs.length e1) (.slice d2 y.thens.length e2) (.slice d3 y.elses.length e3)).toArray ∧ RdC V1 y d1 d2 d3 ∧ Step [] [] w V1)) (HK : Hid (isK y.kind = true ∧ cleanC y = y ∧ refBq x = refB y)) (HBY : Hid (CmB y)) (HLY : Hid (LenS y)) (HID : Hid (okIds y.client y.seq = true)) (hn7 : n7q ≤ 13) (HE7 : Hid (L7q = [nI y.kind, nI y.client, nI y.seq, tI y.token] ++ (if (hasN y.kind) = true then [tI y.name] else []) ++ (if (hasO y.kind) = true then [tI y.other] else []) ++ (if (hasW y.kind) = true then [tI y.word] else []) ++ (if (hasS y.kind) = true then [tI y.salt] else []) ++ (if (hasQ y.kind) = true then [nI y.bytes, nI y.keys] else []) ++ (if (hasR y.kind) = true then [nI y.rev] else []) ++ (if ((hasG y.kind || decide (y.kind = 12))) = true then [tI y.gf, tI y.gt] else []))) (E7 : Hid (Ib V1 V7q b 44 (cmc y (.slice d1 y.ifs.length e1) (.slice d2 y.thens.length e2) (.slice d3 y.elses.length e3)).toArray a7q n7q c7q L7q)) :
  Code.wp Try.prog (cright 11 (Try.f44.body.getD .skip)) (bodyPost Try.prog Try.f44 (fun e w' => e = .returned (.tuple #[Str (refBq x).1, .int .i64 (refBq x).2]) ∧ Step [] [] w w')) { tmps := #[cmV x (.slice a1 x.ifs.length c1) (.slice a2 x.thens.length c2) (.slice a3 x.elses.length c3), .pointer (some ⟨b, 0, none⟩), u2, u3, .bool true, .slice a7q n7q c7q, u6, u7, u8, u9, u10, u11, u12, u13, u14, u15, u16, u17, u18, u19, u20, u21, u22, u23, u24, u25, u26, u27, u28, u29, u30, u31, u32, u33, u34, u35, u36, u37, u38, u39, u40, u41, u42, u43, u44, u45, u46, u47, u48, u49, u50, u51, u52, u53, u54, u55, u56, u57, u58, u59, u60, u61, u62, u63, u64, u65, u66, u67, u68, u69, u70, u71, u72, u73, u74, u75, u76, u77, u78, u79, u80, u81, u82, u83, u84, u85, u86, u87, u88, u89, u90, u91, u92, u93, u94, u95, u96, u97, u98, u99, u100, u101, u102, u103, u104, u105, u106, u107, u108, u109, u110, u111, u112, u113, u114, u115, u116, u117, u118, u119, u120, u121, u122, u123, u124, u125, u126, u127, u128, u129, u130, u131, u132, u133, u134, u135, u136, u137, u138, u139, u140, u141, u142, u143, u144, u145, u146, u147, u148, u149, u150, u151, u152, u153, u154, u155, u156, u157, u158, u159, u160, u161, u162, u163, u164, u165, u166, u167, u168, u169, u170, u171, u172, u173, u174, u175, u176, u177, u178, u179, u180, u181, u182, u183, u184, u185, u186, u187, u188, u189, u190, u191, u192, u193, u194, u195, u196, u197, u198, u199, u200, u201, u202, u203, u204, u205, u206, u207, u208, u209, u210, u211, u212, u213, u214, u215, u216, u217, u218, u219, u220, u221, u222, u223, u224, u225, u226, u227, u228, u229, u230, u231, u232, u233, u234, u235, u236, u237, u238, u239, u240, u241, u242, u243, u244, u245, u246, u247, u248, u249, u250, u251, u252, u253, u254, u255, u256], defers := [] } V7q := by
 conv => arg 2; whnf
 have kc := E7.out.blk.cell
 have k3 := kc 3
 clear kc
 simp only [cmc, List.getElem?_toArray, List.getElem?_cons_zero, List.getElem?_cons_succ] at k3
 have kl := E7.out.blk.lt
 go_wp2_with fail
 refine (hasG_call y.kind _ HK.out.1).mono ?_
 rintro e X7 ⟨rfl, kk⟩
 have F7 := Lib.hid (E7.out.quiet kk)
 clear kk k3 kl
 go_upto_if 134 with fail
 go_cut [5] (fun v wx => ∃ (a : Option Addr) (n c : Nat) (L : List It), v = .slice a n c ∧ n ≤ 15 ∧ Hid (L = L7q ++ (if (hasG y.kind) = true then [fI y.gr, fI y.gw] else [])) ∧ Hid (Ib V1 wx b 44 (cmc y (.slice d1 y.ifs.length e1) (.slice d2 y.thens.length e2) (.slice d3 y.elses.length e3)).toArray a n c L))
 case first =>
  cases hN : (hasG y.kind) with
  | false =>
   have HN := Lib.hid hN
   clear hN
   go_wp2_with fail
   go_meet
   exact ⟨_, _, _, L7q, rfl, by omega, Lib.hid (by rw [HN.out]; simp), F7⟩
  | true =>
   have HN := Lib.hid hN
   clear hN
   obtain ⟨i0, hi, hz0, hz1, hz2⟩ := info_parts Try.info_item
   have HI := Lib.hid (And.intro hi (And.intro hz0 (And.intro hz1 hz2)))
   clear hi hz0 hz1 hz2
   go_upto_region 20 with fail
   have D23 := Lib.hid (F7.out.quiet ((Step.refl [] _).drew))
   refine wp_region_held_drew (S := fun V => Hid (Blk V b 44 (cmc y (.slice d1 y.ifs.length e1) (.slice d2 y.thens.length e2) (.slice d3 y.elses.length e3)).toArray)) (by kernel_rfl) (Lib.hid D23.out.blk) (fun hHeld => ?_)
   refine wpAnyH_take (i := 0) (v := ?_) rfl (by kernel_rfl) (by kernel_rfl) (by kernel_rfl) (fun _ _ _ h => h) (Or.inl ⟨by rfl, ?_⟩) hHeld ?_
   rotate_left
   ·intro w hSw1
    try dsimp only at hSw1
    go_simp
    try (with_reducible rfl)
   try simp only [Act.put, LsA, LsB, LsC, LsD, LsE, LsF]
   refine wpAnyH_take (i := 1) (v := ?_) rfl (by kernel_rfl) (by kernel_rfl) (by kernel_rfl) (fun _ _ _ h => h) (Or.inl ⟨by rfl, ?_⟩) hHeld ?_
   rotate_left
   ·intro w hSw1
    try dsimp only at hSw1
    go_simp
    try (with_reducible rfl)
   try simp only [Act.put, LsA, LsB, LsC, LsD, LsE, LsF]
   refine wpAnyH_take (i := 2) (v := ?_) rfl (by kernel_rfl) (by kernel_rfl) (by kernel_rfl) (fun _ _ _ h => h) (Or.inl ⟨by rfl, ?_⟩) hHeld ?_
   rotate_left
   ·intro w hSw1
    try dsimp only at hSw1
    go_simp
    try (with_reducible rfl)
   try simp only [Act.put, LsA, LsB, LsC, LsD, LsE, LsF]
   refine wpAnyH_take (i := 3) (v := ?_) rfl (by kernel_rfl) (by kernel_rfl) (by kernel_rfl) (fun _ _ _ h => h) (Or.inl ⟨by rfl, ?_⟩) hHeld ?_
   rotate_left
   ·intro w hSw1
    have tc := hSw1.out.cell
    have t12 := tc 12
    have t13 := tc 13
    clear tc
    simp only [cmc, List.getElem?_toArray, List.getElem?_cons_zero, List.getElem?_cons_succ] at t12 t13
    have tl := hSw1.out.lt
    go_simp
    try (with_reducible rfl)
   try simp only [Act.put, LsA, LsB, LsC, LsD, LsE, LsF]
   refine wpAnyH_take (i := 5) (v := ?_) rfl (by kernel_rfl) (by kernel_rfl) (by kernel_rfl) (fun _ _ _ h => h) (Or.inl ⟨by rfl, ?_⟩) hHeld ?_
   rotate_left
   ·intro w hSw1
    try dsimp only at hSw1
    go_simp
    try (with_reducible rfl)
   try simp only [Act.put, LsA, LsB, LsC, LsD, LsE, LsF]
   refine wpAnyH_take (i := 6) (v := ?_) rfl (by kernel_rfl) (by kernel_rfl) (by kernel_rfl) (fun _ _ _ h => h) (Or.inl ⟨by rfl, ?_⟩) hHeld ?_
   rotate_left
   ·intro w hSw1
    try dsimp only at hSw1
    go_simp
    try (with_reducible rfl)
   try simp only [Act.put, LsA, LsB, LsC, LsD, LsE, LsF]
   refine wpAnyH_take (i := 7) (v := ?_) rfl (by kernel_rfl) (by kernel_rfl) (by kernel_rfl) (fun _ _ _ h => h) (Or.inl ⟨by rfl, ?_⟩) hHeld ?_
   rotate_left
   ·intro w hSw1
    have tc := hSw1.out.cell
    have t12 := tc 12
    have t13 := tc 13
    clear tc
    simp only [cmc, List.getElem?_toArray, List.getElem?_cons_zero, List.getElem?_cons_succ] at t12 t13
    have tl := hSw1.out.lt
    go_simp
    try (with_reducible rfl)
   try simp only [Act.put, LsA, LsB, LsC, LsD, LsE, LsF]
   refine wpAnyH_ready (rs := [4]) (by kernel_rfl) (by simp) ?_
   refine AllReadyH.cons rfl (fun K hK => ?_) AllReadyH.nil
   go_simp
   refine (rflg_any y.gr _).mono ?_; rintro e X24 ⟨rfl, kk⟩; have C24 := Lib.hid (D23.out.quiet kk); clear kk
   go_wp2_with fail
   refine hK.out _ _ (Lib.hid C24.out.blk) (fun hHeld2 => ?_)
   clear hK K hHeld
   try simp only [Act.put, LsA, LsB, LsC, LsD, LsE, LsF]
   refine wpAnyH_ready (rs := [8]) (by kernel_rfl) (by simp) ?_
   refine AllReadyH.cons rfl (fun K hK => ?_) AllReadyH.nil
   go_simp
   refine (rflg_any y.gw _).mono ?_; rintro e X25 ⟨rfl, kk⟩; have C25 := Lib.hid (C24.out.quiet kk); clear kk
   go_wp2_with fail
   refine hK.out _ _ (Lib.hid C25.out.blk) (fun hHeld3 => ?_)
   clear hK K hHeld2
   try simp only [Act.put, LsA, LsB, LsC, LsD, LsE, LsF]
   refine wpAnyH_ready (rs := [9]) (by kernel_rfl) (by simp) ?_
   refine AllReadyH.cons rfl (fun K hK => ?_) AllReadyH.nil
   go_simp; go_wp2_with fail; refine letterQ (K := K) ?_; intro U hU; obtain ⟨g26, hg⟩ : ∃ g, g = X25.heap.size := ⟨_, rfl⟩; have B26 : Hid (Ib V1 U b 44 (cmc y (.slice d1 y.ifs.length e1) (.slice d2 y.thens.length e2) (.slice d3 y.elses.length e3)).toArray a7q n7q c7q L7q ∧ Rd U 4 (some ⟨g26, 0, none⟩) 2 (itcs [fI y.gr, fI y.gw])) := Lib.hid (by rw [hU, hg]; exact ⟨C25.out.alloc _, rd_blk' (xs := itcs [fI y.gr, fI y.gw]) (Blk.new X25 88 _) 4 2 rfl⟩); try rw [← hg]; clear hU hg
   refine hK.out _ _ (Lib.hid B26.out.1.blk) (fun hHeld4 => ?_)
   clear hK K hHeld3
   try simp only [Act.put, LsA, LsB, LsC, LsD, LsE, LsF]
   refine wpAnyH_ready (rs := [10]) (by kernel_rfl) (by simp) ?_
   refine AllReadyH.cons rfl (fun K hK => ?_) AllReadyH.nil
   refine step_append_row rfl (.tmp 135) (.tmp 144) 89 89 rfl 88 i0 _ 4 40 Try.underlying89 HI.out.1 HI.out.2.1 HI.out.2.2.1 HI.out.2.2.2 rfl rfl B26.out.1.row rfl (Src.rd (n := 2) 89 88 Try.underlying89 B26.out.2 (itcs_one _)) (by unfold maxLen; omega) (by omega) (by omega) ?_; intro a26 c26 w26 hr st; have A26 : Hid (Ib V1 w26 b 44 (cmc y (.slice d1 y.ifs.length e1) (.slice d2 y.thens.length e2) (.slice d3 y.elses.length e3)).toArray a26 (n7q + 2) c26 (L7q ++ [fI y.gr, fI y.gw])) := Lib.hid (B26.out.1.app hr st); clear hr st
   refine hK.out _ _ (Lib.hid A26.out.blk) (fun hHeld5 => ?_)
   clear hK K hHeld4
   try simp only [Act.put, LsA, LsB, LsC, LsD, LsE, LsF]
   refine wpAnyH_take (i := 11) (v := ?_) rfl (by kernel_rfl) (by kernel_rfl) (by kernel_rfl) (fun _ _ _ h => h) (Or.inl ⟨by rfl, ?_⟩) hHeld5 ?_
   rotate_left
   ·intro w hSw1
    try dsimp only at hSw1
    go_simp
    try (with_reducible rfl)
   try simp only [Act.put, LsA, LsB, LsC, LsD, LsE, LsF]
   refine wpAnyH_done (by kernel_rfl) ?_ _
   go_wp2_with fail
   go_meet
   exact ⟨_, _, _, (L7q ++ [fI y.gr, fI y.gw]), rfl, by omega, Lib.hid (by rw [HN.out]; simp), A26⟩
 case rest =>
  rename World => V8q
  obtain ⟨a8q, n8q, c8q, L8q, rfl, hn8, HE8, E8⟩ := hcut
  rename ∀ (a : Act) (w : World), Code.wp _ _ _ a w → _ => hK
  refine hK _ _ ?_
  exact rby8 H2 HK HBY HLY HID hn8 (Lib.hid (by rw [HE8.out, HE7.out])) E8
set_option maxHeartbeats 16000000 in
theorem rby6 {x y : Cm} {a1 a2 a3 d1 d2 d3 : Option Addr} {c1 c2 c3 e1 e2 e3 : Nat} {w V1 : World} {b : Nat} {V6q : World} {a6q : Option Addr} {n6q c6q : Nat} {L6q : List It} (H2 : Hid (Blk V1 b 44 (cmc y (.slice d1 y.ifs.length e1) (.slice d2 y.thens.length e2) (.slice d3 y.elses.length e3)).toArray ∧ RdC V1 y d1 d2 d3 ∧ Step [] [] w V1)) (HK : Hid (isK y.kind = true ∧ cleanC y = y ∧ refBq x = refB y)) (HBY : Hid (CmB y)) (HLY : Hid (LenS y)) (HID : Hid (okIds y.client y.seq = true)) (hn6 : n6q ≤ 11) (HE6 : Hid (L6q = [nI y.kind, nI y.client, nI y.seq, tI y.token] ++ (if (hasN y.kind) = true then [tI y.name] else []) ++ (if (hasO y.kind) = true then [tI y.other] else []) ++ (if (hasW y.kind) = true then [tI y.word] else []) ++ (if (hasS y.kind) = true then [tI y.salt] else []) ++ (if (hasQ y.kind) = true then [nI y.bytes, nI y.keys] else []) ++ (if (hasR y.kind) = true then [nI y.rev] else []))) (E6 : Hid (Ib V1 V6q b 44 (cmc y (.slice d1 y.ifs.length e1) (.slice d2 y.thens.length e2) (.slice d3 y.elses.length e3)).toArray a6q n6q c6q L6q)) :
  Code.wp Try.prog (cright 10 (Try.f44.body.getD .skip)) (bodyPost Try.prog Try.f44 (fun e w' => e = .returned (.tuple #[Str (refBq x).1, .int .i64 (refBq x).2]) ∧ Step [] [] w w')) { tmps := #[cmV x (.slice a1 x.ifs.length c1) (.slice a2 x.thens.length c2) (.slice a3 x.elses.length c3), .pointer (some ⟨b, 0, none⟩), u2, u3, .bool true, .slice a6q n6q c6q, u6, u7, u8, u9, u10, u11, u12, u13, u14, u15, u16, u17, u18, u19, u20, u21, u22, u23, u24, u25, u26, u27, u28, u29, u30, u31, u32, u33, u34, u35, u36, u37, u38, u39, u40, u41, u42, u43, u44, u45, u46, u47, u48, u49, u50, u51, u52, u53, u54, u55, u56, u57, u58, u59, u60, u61, u62, u63, u64, u65, u66, u67, u68, u69, u70, u71, u72, u73, u74, u75, u76, u77, u78, u79, u80, u81, u82, u83, u84, u85, u86, u87, u88, u89, u90, u91, u92, u93, u94, u95, u96, u97, u98, u99, u100, u101, u102, u103, u104, u105, u106, u107, u108, u109, u110, u111, u112, u113, u114, u115, u116, u117, u118, u119, u120, u121, u122, u123, u124, u125, u126, u127, u128, u129, u130, u131, u132, u133, u134, u135, u136, u137, u138, u139, u140, u141, u142, u143, u144, u145, u146, u147, u148, u149, u150, u151, u152, u153, u154, u155, u156, u157, u158, u159, u160, u161, u162, u163, u164, u165, u166, u167, u168, u169, u170, u171, u172, u173, u174, u175, u176, u177, u178, u179, u180, u181, u182, u183, u184, u185, u186, u187, u188, u189, u190, u191, u192, u193, u194, u195, u196, u197, u198, u199, u200, u201, u202, u203, u204, u205, u206, u207, u208, u209, u210, u211, u212, u213, u214, u215, u216, u217, u218, u219, u220, u221, u222, u223, u224, u225, u226, u227, u228, u229, u230, u231, u232, u233, u234, u235, u236, u237, u238, u239, u240, u241, u242, u243, u244, u245, u246, u247, u248, u249, u250, u251, u252, u253, u254, u255, u256], defers := [] } V6q := by
 conv => arg 2; whnf
 dsimp only
 have kc := E6.out.blk.cell
 have k3 := kc 3
 clear kc
 simp only [cmc, List.getElem?_toArray, List.getElem?_cons_zero, List.getElem?_cons_succ] at k3
 have kl := E6.out.blk.lt
 go_upto_region 17 with fail
 go_cut [118] (fun v wx => v = .bool (hasG y.kind || decide (y.kind = 12)) ∧ Hid (Ib V1 wx b 44 (cmc y (.slice d1 y.ifs.length e1) (.slice d2 y.thens.length e2) (.slice d3 y.elses.length e3)).toArray a6q n6q c6q L6q))
 case first =>
  go_wp2_with fail
  refine (hasG_call y.kind _ HK.out.1).mono ?_
  rintro e X6 ⟨rfl, kk⟩
  have F6 := Lib.hid (E6.out.quiet kk)
  clear kk k3 kl
  have kc := F6.out.blk.cell
  have k3 := kc 3
  clear kc
  simp only [cmc, List.getElem?_toArray, List.getElem?_cons_zero, List.getElem?_cons_succ] at k3
  have kl := F6.out.blk.lt
  cases hG : hasG y.kind with
  | true =>
   go_wp2_with fail
   go_meet
   exact ⟨by rw [hG]; simp, F6⟩
  | false =>
   go_wp2_with fail
   refine (hasP_call y.kind _ HK.out.1).mono ?_
   rintro e Xp ⟨rfl, kk⟩
   have Fp := Lib.hid (F6.out.quiet kk)
   clear kk
   go_wp2_with fail
   go_meet
   exact ⟨by rw [hG]; simp, Fp⟩
 case rest =>
  rename World => Vp
  obtain ⟨rfl, Fp⟩ := hcut
  clear k3 kl
  go_upto_if 118 with fail
  go_cut [5] (fun v wx => ∃ (a : Option Addr) (n c : Nat) (L : List It), v = .slice a n c ∧ n ≤ 13 ∧ Hid (L = L6q ++ (if ((hasG y.kind || decide (y.kind = 12))) = true then [tI y.gf, tI y.gt] else [])) ∧ Hid (Ib V1 wx b 44 (cmc y (.slice d1 y.ifs.length e1) (.slice d2 y.thens.length e2) (.slice d3 y.elses.length e3)).toArray a n c L))
  case first =>
   cases hN : ((hasG y.kind || decide (y.kind = 12))) with
   | false =>
    have HN := Lib.hid hN
    clear hN
    go_wp2_with fail
    go_meet
    exact ⟨_, _, _, L6q, rfl, by omega, Lib.hid (by rw [HN.out]; simp), Fp⟩
   | true =>
    have HN := Lib.hid hN
    clear hN
    obtain ⟨i0, hi, hz0, hz1, hz2⟩ := info_parts Try.info_item
    have HI := Lib.hid (And.intro hi (And.intro hz0 (And.intro hz1 hz2)))
    clear hi hz0 hz1 hz2
    go_upto_region 18 with fail
    have D19 := Lib.hid (Fp.out.quiet ((Step.refl [] _).drew))
    refine wp_region_held_drew (S := fun V => Hid (Blk V b 44 (cmc y (.slice d1 y.ifs.length e1) (.slice d2 y.thens.length e2) (.slice d3 y.elses.length e3)).toArray)) (by kernel_rfl) (Lib.hid D19.out.blk) (fun hHeld => ?_)
    refine wpAnyH_take (i := 0) (v := ?_) rfl (by kernel_rfl) (by kernel_rfl) (by kernel_rfl) (fun _ _ _ h => h) (Or.inl ⟨by rfl, ?_⟩) hHeld ?_
    rotate_left
    ·intro w hSw1
     try dsimp only at hSw1
     go_simp
     try (with_reducible rfl)
    try simp only [Act.put, LsA, LsB, LsC, LsD, LsE, LsF]
    refine wpAnyH_take (i := 1) (v := ?_) rfl (by kernel_rfl) (by kernel_rfl) (by kernel_rfl) (fun _ _ _ h => h) (Or.inl ⟨by rfl, ?_⟩) hHeld ?_
    rotate_left
    ·intro w hSw1
     try dsimp only at hSw1
     go_simp
     try (with_reducible rfl)
    try simp only [Act.put, LsA, LsB, LsC, LsD, LsE, LsF]
    refine wpAnyH_take (i := 2) (v := ?_) rfl (by kernel_rfl) (by kernel_rfl) (by kernel_rfl) (fun _ _ _ h => h) (Or.inl ⟨by rfl, ?_⟩) hHeld ?_
    rotate_left
    ·intro w hSw1
     try dsimp only at hSw1
     go_simp
     try (with_reducible rfl)
    try simp only [Act.put, LsA, LsB, LsC, LsD, LsE, LsF]
    refine wpAnyH_take (i := 3) (v := ?_) rfl (by kernel_rfl) (by kernel_rfl) (by kernel_rfl) (fun _ _ _ h => h) (Or.inl ⟨by rfl, ?_⟩) hHeld ?_
    rotate_left
    ·intro w hSw1
     try dsimp only at hSw1
     go_simp
     try (with_reducible rfl)
    try simp only [Act.put, LsA, LsB, LsC, LsD, LsE, LsF]
    refine wpAnyH_take (i := 4) (v := ?_) rfl (by kernel_rfl) (by kernel_rfl) (by kernel_rfl) (fun _ _ _ h => h) (Or.inl ⟨by rfl, ?_⟩) hHeld ?_
    rotate_left
    ·intro w hSw1
     have tc := hSw1.out.cell
     have t10 := tc 10
     have t11 := tc 11
     clear tc
     simp only [cmc, List.getElem?_toArray, List.getElem?_cons_zero, List.getElem?_cons_succ] at t10 t11
     have tl := hSw1.out.lt
     go_simp
     try (with_reducible rfl)
    try simp only [Act.put, LsA, LsB, LsC, LsD, LsE, LsF]
    refine wpAnyH_take (i := 6) (v := ?_) rfl (by kernel_rfl) (by kernel_rfl) (by kernel_rfl) (fun _ _ _ h => h) (Or.inl ⟨by rfl, ?_⟩) hHeld ?_
    rotate_left
    ·intro w hSw1
     try dsimp only at hSw1
     go_simp
     try (with_reducible rfl)
    try simp only [Act.put, LsA, LsB, LsC, LsD, LsE, LsF]
    refine wpAnyH_take (i := 7) (v := ?_) rfl (by kernel_rfl) (by kernel_rfl) (by kernel_rfl) (fun _ _ _ h => h) (Or.inl ⟨by rfl, ?_⟩) hHeld ?_
    rotate_left
    ·intro w hSw1
     try dsimp only at hSw1
     go_simp
     try (with_reducible rfl)
    try simp only [Act.put, LsA, LsB, LsC, LsD, LsE, LsF]
    refine wpAnyH_take (i := 8) (v := ?_) rfl (by kernel_rfl) (by kernel_rfl) (by kernel_rfl) (fun _ _ _ h => h) (Or.inl ⟨by rfl, ?_⟩) hHeld ?_
    rotate_left
    ·intro w hSw1
     try dsimp only at hSw1
     go_simp
     try (with_reducible rfl)
    try simp only [Act.put, LsA, LsB, LsC, LsD, LsE, LsF]
    refine wpAnyH_take (i := 9) (v := ?_) rfl (by kernel_rfl) (by kernel_rfl) (by kernel_rfl) (fun _ _ _ h => h) (Or.inl ⟨by rfl, ?_⟩) hHeld ?_
    rotate_left
    ·intro w hSw1
     have tc := hSw1.out.cell
     have t10 := tc 10
     have t11 := tc 11
     clear tc
     simp only [cmc, List.getElem?_toArray, List.getElem?_cons_zero, List.getElem?_cons_succ] at t10 t11
     have tl := hSw1.out.lt
     go_simp
     try (with_reducible rfl)
    try simp only [Act.put, LsA, LsB, LsC, LsD, LsE, LsF]
    refine wpAnyH_ready (rs := [5]) (by kernel_rfl) (by simp) ?_
    refine AllReadyH.cons rfl (fun K hK => ?_) AllReadyH.nil
    go_simp
    refine (rtx_any y.gf _).mono ?_; rintro e X20 ⟨rfl, kk⟩; have C20 := Lib.hid (D19.out.quiet kk); clear kk
    go_wp2_with fail
    refine hK.out _ _ (Lib.hid C20.out.blk) (fun hHeld2 => ?_)
    clear hK K hHeld
    try simp only [Act.put, LsA, LsB, LsC, LsD, LsE, LsF]
    refine wpAnyH_ready (rs := [10]) (by kernel_rfl) (by simp) ?_
    refine AllReadyH.cons rfl (fun K hK => ?_) AllReadyH.nil
    go_simp
    refine (rtx_any y.gt _).mono ?_; rintro e X21 ⟨rfl, kk⟩; have C21 := Lib.hid (C20.out.quiet kk); clear kk
    go_wp2_with fail
    refine hK.out _ _ (Lib.hid C21.out.blk) (fun hHeld3 => ?_)
    clear hK K hHeld2
    try simp only [Act.put, LsA, LsB, LsC, LsD, LsE, LsF]
    refine wpAnyH_ready (rs := [11]) (by kernel_rfl) (by simp) ?_
    refine AllReadyH.cons rfl (fun K hK => ?_) AllReadyH.nil
    go_simp; go_wp2_with fail; refine letterQ (K := K) ?_; intro U hU; obtain ⟨g22, hg⟩ : ∃ g, g = X21.heap.size := ⟨_, rfl⟩; have B22 : Hid (Ib V1 U b 44 (cmc y (.slice d1 y.ifs.length e1) (.slice d2 y.thens.length e2) (.slice d3 y.elses.length e3)).toArray a6q n6q c6q L6q ∧ Rd U 4 (some ⟨g22, 0, none⟩) 2 (itcs [tI y.gf, tI y.gt])) := Lib.hid (by rw [hU, hg]; exact ⟨C21.out.alloc _, rd_blk' (xs := itcs [tI y.gf, tI y.gt]) (Blk.new X21 88 _) 4 2 rfl⟩); try rw [← hg]; clear hU hg
    refine hK.out _ _ (Lib.hid B22.out.1.blk) (fun hHeld4 => ?_)
    clear hK K hHeld3
    try simp only [Act.put, LsA, LsB, LsC, LsD, LsE, LsF]
    refine wpAnyH_ready (rs := [12]) (by kernel_rfl) (by simp) ?_
    refine AllReadyH.cons rfl (fun K hK => ?_) AllReadyH.nil
    refine step_append_row rfl (.tmp 119) (.tmp 130) 89 89 rfl 88 i0 _ 4 40 Try.underlying89 HI.out.1 HI.out.2.1 HI.out.2.2.1 HI.out.2.2.2 rfl rfl B22.out.1.row rfl (Src.rd (n := 2) 89 88 Try.underlying89 B22.out.2 (itcs_one _)) (by unfold maxLen; omega) (by omega) (by omega) ?_; intro a22 c22 w22 hr st; have A22 : Hid (Ib V1 w22 b 44 (cmc y (.slice d1 y.ifs.length e1) (.slice d2 y.thens.length e2) (.slice d3 y.elses.length e3)).toArray a22 (n6q + 2) c22 (L6q ++ [tI y.gf, tI y.gt])) := Lib.hid (B22.out.1.app hr st); clear hr st
    refine hK.out _ _ (Lib.hid A22.out.blk) (fun hHeld5 => ?_)
    clear hK K hHeld4
    try simp only [Act.put, LsA, LsB, LsC, LsD, LsE, LsF]
    refine wpAnyH_take (i := 13) (v := ?_) rfl (by kernel_rfl) (by kernel_rfl) (by kernel_rfl) (fun _ _ _ h => h) (Or.inl ⟨by rfl, ?_⟩) hHeld5 ?_
    rotate_left
    ·intro w hSw1
     try dsimp only at hSw1
     go_simp
     try (with_reducible rfl)
    try simp only [Act.put, LsA, LsB, LsC, LsD, LsE, LsF]
    refine wpAnyH_done (by kernel_rfl) ?_ _
    go_wp2_with fail
    go_meet
    exact ⟨_, _, _, (L6q ++ [tI y.gf, tI y.gt]), rfl, by omega, Lib.hid (by rw [HN.out]; simp), A22⟩
  case rest =>
   rename World => V7q
   obtain ⟨a7q, n7q, c7q, L7q, rfl, hn7, HE7, E7⟩ := hcut
   rename ∀ (a : Act) (w : World), Code.wp _ _ _ a w → _ => hK
   refine hK _ _ ?_
   exact rby7 H2 HK HBY HLY HID hn7 (Lib.hid (by rw [HE7.out, HE6.out])) E7
set_option maxHeartbeats 16000000 in
theorem rby5 {x y : Cm} {a1 a2 a3 d1 d2 d3 : Option Addr} {c1 c2 c3 e1 e2 e3 : Nat} {w V1 : World} {b : Nat} {V5q : World} {a5q : Option Addr} {n5q c5q : Nat} {L5q : List It} (H2 : Hid (Blk V1 b 44 (cmc y (.slice d1 y.ifs.length e1) (.slice d2 y.thens.length e2) (.slice d3 y.elses.length e3)).toArray ∧ RdC V1 y d1 d2 d3 ∧ Step [] [] w V1)) (HK : Hid (isK y.kind = true ∧ cleanC y = y ∧ refBq x = refB y)) (HBY : Hid (CmB y)) (HLY : Hid (LenS y)) (HID : Hid (okIds y.client y.seq = true)) (hn5 : n5q ≤ 10) (HE5 : Hid (L5q = [nI y.kind, nI y.client, nI y.seq, tI y.token] ++ (if (hasN y.kind) = true then [tI y.name] else []) ++ (if (hasO y.kind) = true then [tI y.other] else []) ++ (if (hasW y.kind) = true then [tI y.word] else []) ++ (if (hasS y.kind) = true then [tI y.salt] else []) ++ (if (hasQ y.kind) = true then [nI y.bytes, nI y.keys] else []))) (E5 : Hid (Ib V1 V5q b 44 (cmc y (.slice d1 y.ifs.length e1) (.slice d2 y.thens.length e2) (.slice d3 y.elses.length e3)).toArray a5q n5q c5q L5q)) :
  Code.wp Try.prog (cright 9 (Try.f44.body.getD .skip)) (bodyPost Try.prog Try.f44 (fun e w' => e = .returned (.tuple #[Str (refBq x).1, .int .i64 (refBq x).2]) ∧ Step [] [] w w')) { tmps := #[cmV x (.slice a1 x.ifs.length c1) (.slice a2 x.thens.length c2) (.slice a3 x.elses.length c3), .pointer (some ⟨b, 0, none⟩), u2, u3, .bool true, .slice a5q n5q c5q, u6, u7, u8, u9, u10, u11, u12, u13, u14, u15, u16, u17, u18, u19, u20, u21, u22, u23, u24, u25, u26, u27, u28, u29, u30, u31, u32, u33, u34, u35, u36, u37, u38, u39, u40, u41, u42, u43, u44, u45, u46, u47, u48, u49, u50, u51, u52, u53, u54, u55, u56, u57, u58, u59, u60, u61, u62, u63, u64, u65, u66, u67, u68, u69, u70, u71, u72, u73, u74, u75, u76, u77, u78, u79, u80, u81, u82, u83, u84, u85, u86, u87, u88, u89, u90, u91, u92, u93, u94, u95, u96, u97, u98, u99, u100, u101, u102, u103, u104, u105, u106, u107, u108, u109, u110, u111, u112, u113, u114, u115, u116, u117, u118, u119, u120, u121, u122, u123, u124, u125, u126, u127, u128, u129, u130, u131, u132, u133, u134, u135, u136, u137, u138, u139, u140, u141, u142, u143, u144, u145, u146, u147, u148, u149, u150, u151, u152, u153, u154, u155, u156, u157, u158, u159, u160, u161, u162, u163, u164, u165, u166, u167, u168, u169, u170, u171, u172, u173, u174, u175, u176, u177, u178, u179, u180, u181, u182, u183, u184, u185, u186, u187, u188, u189, u190, u191, u192, u193, u194, u195, u196, u197, u198, u199, u200, u201, u202, u203, u204, u205, u206, u207, u208, u209, u210, u211, u212, u213, u214, u215, u216, u217, u218, u219, u220, u221, u222, u223, u224, u225, u226, u227, u228, u229, u230, u231, u232, u233, u234, u235, u236, u237, u238, u239, u240, u241, u242, u243, u244, u245, u246, u247, u248, u249, u250, u251, u252, u253, u254, u255, u256], defers := [] } V5q := by
 conv => arg 2; whnf
 have kc := E5.out.blk.cell
 have k3 := kc 3
 clear kc
 simp only [cmc, List.getElem?_toArray, List.getElem?_cons_zero, List.getElem?_cons_succ] at k3
 have kl := E5.out.blk.lt
 go_wp2_with fail
 refine (hasR_call y.kind _ HK.out.1).mono ?_
 rintro e X5 ⟨rfl, kk⟩
 have F5 := Lib.hid (E5.out.quiet kk)
 clear kk k3 kl
 go_upto_if 104 with fail
 go_cut [5] (fun v wx => ∃ (a : Option Addr) (n c : Nat) (L : List It), v = .slice a n c ∧ n ≤ 11 ∧ Hid (L = L5q ++ (if (hasR y.kind) = true then [nI y.rev] else [])) ∧ Hid (Ib V1 wx b 44 (cmc y (.slice d1 y.ifs.length e1) (.slice d2 y.thens.length e2) (.slice d3 y.elses.length e3)).toArray a n c L))
 case first =>
  cases hN : (hasR y.kind) with
  | false =>
   have HN := Lib.hid hN
   clear hN
   go_wp2_with fail
   go_meet
   exact ⟨_, _, _, L5q, rfl, by omega, Lib.hid (by rw [HN.out]; simp), F5⟩
  | true =>
   have HN := Lib.hid hN
   clear hN
   obtain ⟨i0, hi, hz0, hz1, hz2⟩ := info_parts Try.info_item
   have HI := Lib.hid (And.intro hi (And.intro hz0 (And.intro hz1 hz2)))
   clear hi hz0 hz1 hz2
   have pc := F5.out.blk.cell
   have p14 := pc 14
   clear pc
   simp only [cmc, List.getElem?_toArray, List.getElem?_cons_zero, List.getElem?_cons_succ] at p14
   have pl := F5.out.blk.lt
   go_wp2_with fail
   refine (rnm_any y.rev _).mono ?_
   rintro e X17 ⟨rfl, kk⟩
   have C17 := Lib.hid (F5.out.quiet kk)
   clear kk p14 pl
   obtain ⟨g18, hg⟩ : ∃ g, g = X17.heap.size := ⟨_, rfl⟩
   obtain ⟨Y18, hW⟩ : ∃ Y, Y = X17.alloc (.cells #[.int .i64 0, .int .i64 y.rev, .string ⟨#[]⟩, .bool false] 88) := ⟨_, rfl⟩
   have B18 : Hid (Ib V1 Y18 b 44 (cmc y (.slice d1 y.ifs.length e1) (.slice d2 y.thens.length e2) (.slice d3 y.elses.length e3)).toArray a5q n5q c5q L5q ∧ Rd Y18 4 (some ⟨g18, 0, none⟩) 1 (itcs [nI y.rev])) := Lib.hid (by rw [hW, hg]; exact ⟨C17.out.alloc _, rd_blk' (xs := itcs [nI y.rev]) (Blk.new X17 88 _) 4 1 rfl⟩)
   have HY18 := Lib.hid hW
   have HG18 := Lib.hid hg
   clear hW hg
   go_wp2_with (at_builtin; rw [show X17.heap.size = g18 from HG18.out.symm, show X17.alloc (.cells #[.int .i64 0, .int .i64 y.rev, .string ⟨#[]⟩, .bool false] 88) = Y18 from HY18.out.symm]; refine wpList_append_row rfl (.tmp 105) (.tmp 109) 89 89 rfl 88 i0 _ 4 40 Try.underlying89 HI.out.1 HI.out.2.1 HI.out.2.2.1 HI.out.2.2.2 rfl rfl B18.out.1.row rfl (Src.rd (n := 1) 89 88 Try.underlying89 B18.out.2 (itcs_one _)) (by unfold maxLen; omega) (by omega) (by omega) ?_; intro a18 c18 w18 hr st; have A18 : Hid (Ib V1 w18 b 44 (cmc y (.slice d1 y.ifs.length e1) (.slice d2 y.thens.length e2) (.slice d3 y.elses.length e3)).toArray a18 (n5q + 1) c18 (L5q ++ [nI y.rev])) := Lib.hid (B18.out.1.app hr st); clear hr st)
   clear HY18 HG18 C17 B18
   go_meet
   exact ⟨_, _, _, (L5q ++ [nI y.rev]), rfl, by omega, Lib.hid (by rw [HN.out]; simp), A18⟩
 case rest =>
  rename World => V6q
  obtain ⟨a6q, n6q, c6q, L6q, rfl, hn6, HE6, E6⟩ := hcut
  rename ∀ (a : Act) (w : World), Code.wp _ _ _ a w → _ => hK
  refine hK _ _ ?_
  exact rby6 H2 HK HBY HLY HID hn6 (Lib.hid (by rw [HE6.out, HE5.out])) E6
set_option maxHeartbeats 16000000 in
theorem rby4 {x y : Cm} {a1 a2 a3 d1 d2 d3 : Option Addr} {c1 c2 c3 e1 e2 e3 : Nat} {w V1 : World} {b : Nat} {V4q : World} {a4q : Option Addr} {n4q c4q : Nat} {L4q : List It} (H2 : Hid (Blk V1 b 44 (cmc y (.slice d1 y.ifs.length e1) (.slice d2 y.thens.length e2) (.slice d3 y.elses.length e3)).toArray ∧ RdC V1 y d1 d2 d3 ∧ Step [] [] w V1)) (HK : Hid (isK y.kind = true ∧ cleanC y = y ∧ refBq x = refB y)) (HBY : Hid (CmB y)) (HLY : Hid (LenS y)) (HID : Hid (okIds y.client y.seq = true)) (hn4 : n4q ≤ 8) (HE4 : Hid (L4q = [nI y.kind, nI y.client, nI y.seq, tI y.token] ++ (if (hasN y.kind) = true then [tI y.name] else []) ++ (if (hasO y.kind) = true then [tI y.other] else []) ++ (if (hasW y.kind) = true then [tI y.word] else []) ++ (if (hasS y.kind) = true then [tI y.salt] else []))) (E4 : Hid (Ib V1 V4q b 44 (cmc y (.slice d1 y.ifs.length e1) (.slice d2 y.thens.length e2) (.slice d3 y.elses.length e3)).toArray a4q n4q c4q L4q)) :
  Code.wp Try.prog (cright 8 (Try.f44.body.getD .skip)) (bodyPost Try.prog Try.f44 (fun e w' => e = .returned (.tuple #[Str (refBq x).1, .int .i64 (refBq x).2]) ∧ Step [] [] w w')) { tmps := #[cmV x (.slice a1 x.ifs.length c1) (.slice a2 x.thens.length c2) (.slice a3 x.elses.length c3), .pointer (some ⟨b, 0, none⟩), u2, u3, .bool true, .slice a4q n4q c4q, u6, u7, u8, u9, u10, u11, u12, u13, u14, u15, u16, u17, u18, u19, u20, u21, u22, u23, u24, u25, u26, u27, u28, u29, u30, u31, u32, u33, u34, u35, u36, u37, u38, u39, u40, u41, u42, u43, u44, u45, u46, u47, u48, u49, u50, u51, u52, u53, u54, u55, u56, u57, u58, u59, u60, u61, u62, u63, u64, u65, u66, u67, u68, u69, u70, u71, u72, u73, u74, u75, u76, u77, u78, u79, u80, u81, u82, u83, u84, u85, u86, u87, u88, u89, u90, u91, u92, u93, u94, u95, u96, u97, u98, u99, u100, u101, u102, u103, u104, u105, u106, u107, u108, u109, u110, u111, u112, u113, u114, u115, u116, u117, u118, u119, u120, u121, u122, u123, u124, u125, u126, u127, u128, u129, u130, u131, u132, u133, u134, u135, u136, u137, u138, u139, u140, u141, u142, u143, u144, u145, u146, u147, u148, u149, u150, u151, u152, u153, u154, u155, u156, u157, u158, u159, u160, u161, u162, u163, u164, u165, u166, u167, u168, u169, u170, u171, u172, u173, u174, u175, u176, u177, u178, u179, u180, u181, u182, u183, u184, u185, u186, u187, u188, u189, u190, u191, u192, u193, u194, u195, u196, u197, u198, u199, u200, u201, u202, u203, u204, u205, u206, u207, u208, u209, u210, u211, u212, u213, u214, u215, u216, u217, u218, u219, u220, u221, u222, u223, u224, u225, u226, u227, u228, u229, u230, u231, u232, u233, u234, u235, u236, u237, u238, u239, u240, u241, u242, u243, u244, u245, u246, u247, u248, u249, u250, u251, u252, u253, u254, u255, u256], defers := [] } V4q := by
 conv => arg 2; whnf
 have kc := E4.out.blk.cell
 have k3 := kc 3
 clear kc
 simp only [cmc, List.getElem?_toArray, List.getElem?_cons_zero, List.getElem?_cons_succ] at k3
 have kl := E4.out.blk.lt
 go_wp2_with fail
 refine (hasQ_call y.kind _ HK.out.1).mono ?_
 rintro e X4 ⟨rfl, kk⟩
 have F4 := Lib.hid (E4.out.quiet kk)
 clear kk k3 kl
 go_upto_if 92 with fail
 go_cut [5] (fun v wx => ∃ (a : Option Addr) (n c : Nat) (L : List It), v = .slice a n c ∧ n ≤ 10 ∧ Hid (L = L4q ++ (if (hasQ y.kind) = true then [nI y.bytes, nI y.keys] else [])) ∧ Hid (Ib V1 wx b 44 (cmc y (.slice d1 y.ifs.length e1) (.slice d2 y.thens.length e2) (.slice d3 y.elses.length e3)).toArray a n c L))
 case first =>
  cases hN : (hasQ y.kind) with
  | false =>
   have HN := Lib.hid hN
   clear hN
   go_wp2_with fail
   go_meet
   exact ⟨_, _, _, L4q, rfl, by omega, Lib.hid (by rw [HN.out]; simp), F4⟩
  | true =>
   have HN := Lib.hid hN
   clear hN
   obtain ⟨i0, hi, hz0, hz1, hz2⟩ := info_parts Try.info_item
   have HI := Lib.hid (And.intro hi (And.intro hz0 (And.intro hz1 hz2)))
   clear hi hz0 hz1 hz2
   go_upto_region 14 with fail
   have D13 := Lib.hid (F4.out.quiet ((Step.refl [] _).drew))
   refine wp_region_held_drew (S := fun V => Hid (Blk V b 44 (cmc y (.slice d1 y.ifs.length e1) (.slice d2 y.thens.length e2) (.slice d3 y.elses.length e3)).toArray)) (by kernel_rfl) (Lib.hid D13.out.blk) (fun hHeld => ?_)
   refine wpAnyH_take (i := 0) (v := ?_) rfl (by kernel_rfl) (by kernel_rfl) (by kernel_rfl) (fun _ _ _ h => h) (Or.inl ⟨by rfl, ?_⟩) hHeld ?_
   rotate_left
   ·intro w hSw1
    try dsimp only at hSw1
    go_simp
    try (with_reducible rfl)
   try simp only [Act.put, LsA, LsB, LsC, LsD, LsE, LsF]
   refine wpAnyH_take (i := 1) (v := ?_) rfl (by kernel_rfl) (by kernel_rfl) (by kernel_rfl) (fun _ _ _ h => h) (Or.inl ⟨by rfl, ?_⟩) hHeld ?_
   rotate_left
   ·intro w hSw1
    try dsimp only at hSw1
    go_simp
    try (with_reducible rfl)
   try simp only [Act.put, LsA, LsB, LsC, LsD, LsE, LsF]
   refine wpAnyH_take (i := 2) (v := ?_) rfl (by kernel_rfl) (by kernel_rfl) (by kernel_rfl) (fun _ _ _ h => h) (Or.inl ⟨by rfl, ?_⟩) hHeld ?_
   rotate_left
   ·intro w hSw1
    have tc := hSw1.out.cell
    have t8 := tc 8
    have t9 := tc 9
    clear tc
    simp only [cmc, List.getElem?_toArray, List.getElem?_cons_zero, List.getElem?_cons_succ] at t8 t9
    have tl := hSw1.out.lt
    go_simp
    try (with_reducible rfl)
   try simp only [Act.put, LsA, LsB, LsC, LsD, LsE, LsF]
   refine wpAnyH_take (i := 4) (v := ?_) rfl (by kernel_rfl) (by kernel_rfl) (by kernel_rfl) (fun _ _ _ h => h) (Or.inl ⟨by rfl, ?_⟩) hHeld ?_
   rotate_left
   ·intro w hSw1
    try dsimp only at hSw1
    go_simp
    try (with_reducible rfl)
   try simp only [Act.put, LsA, LsB, LsC, LsD, LsE, LsF]
   refine wpAnyH_take (i := 5) (v := ?_) rfl (by kernel_rfl) (by kernel_rfl) (by kernel_rfl) (fun _ _ _ h => h) (Or.inl ⟨by rfl, ?_⟩) hHeld ?_
   rotate_left
   ·intro w hSw1
    have tc := hSw1.out.cell
    have t8 := tc 8
    have t9 := tc 9
    clear tc
    simp only [cmc, List.getElem?_toArray, List.getElem?_cons_zero, List.getElem?_cons_succ] at t8 t9
    have tl := hSw1.out.lt
    go_simp
    try (with_reducible rfl)
   try simp only [Act.put, LsA, LsB, LsC, LsD, LsE, LsF]
   refine wpAnyH_ready (rs := [3]) (by kernel_rfl) (by simp) ?_
   refine AllReadyH.cons rfl (fun K hK => ?_) AllReadyH.nil
   go_simp
   refine (rnm_any y.bytes _).mono ?_; rintro e X14 ⟨rfl, kk⟩; have C14 := Lib.hid (D13.out.quiet kk); clear kk
   go_wp2_with fail
   refine hK.out _ _ (Lib.hid C14.out.blk) (fun hHeld2 => ?_)
   clear hK K hHeld
   try simp only [Act.put, LsA, LsB, LsC, LsD, LsE, LsF]
   refine wpAnyH_ready (rs := [6]) (by kernel_rfl) (by simp) ?_
   refine AllReadyH.cons rfl (fun K hK => ?_) AllReadyH.nil
   go_simp
   refine (rnm_any y.keys _).mono ?_; rintro e X15 ⟨rfl, kk⟩; have C15 := Lib.hid (C14.out.quiet kk); clear kk
   go_wp2_with fail
   refine hK.out _ _ (Lib.hid C15.out.blk) (fun hHeld3 => ?_)
   clear hK K hHeld2
   try simp only [Act.put, LsA, LsB, LsC, LsD, LsE, LsF]
   refine wpAnyH_ready (rs := [7]) (by kernel_rfl) (by simp) ?_
   refine AllReadyH.cons rfl (fun K hK => ?_) AllReadyH.nil
   go_simp; go_wp2_with fail; refine letterQ (K := K) ?_; intro U hU; obtain ⟨g16, hg⟩ : ∃ g, g = X15.heap.size := ⟨_, rfl⟩; have B16 : Hid (Ib V1 U b 44 (cmc y (.slice d1 y.ifs.length e1) (.slice d2 y.thens.length e2) (.slice d3 y.elses.length e3)).toArray a4q n4q c4q L4q ∧ Rd U 4 (some ⟨g16, 0, none⟩) 2 (itcs [nI y.bytes, nI y.keys])) := Lib.hid (by rw [hU, hg]; exact ⟨C15.out.alloc _, rd_blk' (xs := itcs [nI y.bytes, nI y.keys]) (Blk.new X15 88 _) 4 2 rfl⟩); try rw [← hg]; clear hU hg
   refine hK.out _ _ (Lib.hid B16.out.1.blk) (fun hHeld4 => ?_)
   clear hK K hHeld3
   try simp only [Act.put, LsA, LsB, LsC, LsD, LsE, LsF]
   refine wpAnyH_ready (rs := [8]) (by kernel_rfl) (by simp) ?_
   refine AllReadyH.cons rfl (fun K hK => ?_) AllReadyH.nil
   refine step_append_row rfl (.tmp 93) (.tmp 100) 89 89 rfl 88 i0 _ 4 40 Try.underlying89 HI.out.1 HI.out.2.1 HI.out.2.2.1 HI.out.2.2.2 rfl rfl B16.out.1.row rfl (Src.rd (n := 2) 89 88 Try.underlying89 B16.out.2 (itcs_one _)) (by unfold maxLen; omega) (by omega) (by omega) ?_; intro a16 c16 w16 hr st; have A16 : Hid (Ib V1 w16 b 44 (cmc y (.slice d1 y.ifs.length e1) (.slice d2 y.thens.length e2) (.slice d3 y.elses.length e3)).toArray a16 (n4q + 2) c16 (L4q ++ [nI y.bytes, nI y.keys])) := Lib.hid (B16.out.1.app hr st); clear hr st
   refine hK.out _ _ (Lib.hid A16.out.blk) (fun hHeld5 => ?_)
   clear hK K hHeld4
   try simp only [Act.put, LsA, LsB, LsC, LsD, LsE, LsF]
   refine wpAnyH_take (i := 9) (v := ?_) rfl (by kernel_rfl) (by kernel_rfl) (by kernel_rfl) (fun _ _ _ h => h) (Or.inl ⟨by rfl, ?_⟩) hHeld5 ?_
   rotate_left
   ·intro w hSw1
    try dsimp only at hSw1
    go_simp
    try (with_reducible rfl)
   try simp only [Act.put, LsA, LsB, LsC, LsD, LsE, LsF]
   refine wpAnyH_done (by kernel_rfl) ?_ _
   go_wp2_with fail
   go_meet
   exact ⟨_, _, _, (L4q ++ [nI y.bytes, nI y.keys]), rfl, by omega, Lib.hid (by rw [HN.out]; simp), A16⟩
 case rest =>
  rename World => V5q
  obtain ⟨a5q, n5q, c5q, L5q, rfl, hn5, HE5, E5⟩ := hcut
  rename ∀ (a : Act) (w : World), Code.wp _ _ _ a w → _ => hK
  refine hK _ _ ?_
  exact rby5 H2 HK HBY HLY HID hn5 (Lib.hid (by rw [HE5.out, HE4.out])) E5
set_option maxHeartbeats 16000000 in
theorem rby3 {x y : Cm} {a1 a2 a3 d1 d2 d3 : Option Addr} {c1 c2 c3 e1 e2 e3 : Nat} {w V1 : World} {b : Nat} {V3q : World} {a3q : Option Addr} {n3q c3q : Nat} {L3q : List It} (H2 : Hid (Blk V1 b 44 (cmc y (.slice d1 y.ifs.length e1) (.slice d2 y.thens.length e2) (.slice d3 y.elses.length e3)).toArray ∧ RdC V1 y d1 d2 d3 ∧ Step [] [] w V1)) (HK : Hid (isK y.kind = true ∧ cleanC y = y ∧ refBq x = refB y)) (HBY : Hid (CmB y)) (HLY : Hid (LenS y)) (HID : Hid (okIds y.client y.seq = true)) (hn3 : n3q ≤ 7) (HE3 : Hid (L3q = [nI y.kind, nI y.client, nI y.seq, tI y.token] ++ (if (hasN y.kind) = true then [tI y.name] else []) ++ (if (hasO y.kind) = true then [tI y.other] else []) ++ (if (hasW y.kind) = true then [tI y.word] else []))) (E3 : Hid (Ib V1 V3q b 44 (cmc y (.slice d1 y.ifs.length e1) (.slice d2 y.thens.length e2) (.slice d3 y.elses.length e3)).toArray a3q n3q c3q L3q)) :
  Code.wp Try.prog (cright 7 (Try.f44.body.getD .skip)) (bodyPost Try.prog Try.f44 (fun e w' => e = .returned (.tuple #[Str (refBq x).1, .int .i64 (refBq x).2]) ∧ Step [] [] w w')) { tmps := #[cmV x (.slice a1 x.ifs.length c1) (.slice a2 x.thens.length c2) (.slice a3 x.elses.length c3), .pointer (some ⟨b, 0, none⟩), u2, u3, .bool true, .slice a3q n3q c3q, u6, u7, u8, u9, u10, u11, u12, u13, u14, u15, u16, u17, u18, u19, u20, u21, u22, u23, u24, u25, u26, u27, u28, u29, u30, u31, u32, u33, u34, u35, u36, u37, u38, u39, u40, u41, u42, u43, u44, u45, u46, u47, u48, u49, u50, u51, u52, u53, u54, u55, u56, u57, u58, u59, u60, u61, u62, u63, u64, u65, u66, u67, u68, u69, u70, u71, u72, u73, u74, u75, u76, u77, u78, u79, u80, u81, u82, u83, u84, u85, u86, u87, u88, u89, u90, u91, u92, u93, u94, u95, u96, u97, u98, u99, u100, u101, u102, u103, u104, u105, u106, u107, u108, u109, u110, u111, u112, u113, u114, u115, u116, u117, u118, u119, u120, u121, u122, u123, u124, u125, u126, u127, u128, u129, u130, u131, u132, u133, u134, u135, u136, u137, u138, u139, u140, u141, u142, u143, u144, u145, u146, u147, u148, u149, u150, u151, u152, u153, u154, u155, u156, u157, u158, u159, u160, u161, u162, u163, u164, u165, u166, u167, u168, u169, u170, u171, u172, u173, u174, u175, u176, u177, u178, u179, u180, u181, u182, u183, u184, u185, u186, u187, u188, u189, u190, u191, u192, u193, u194, u195, u196, u197, u198, u199, u200, u201, u202, u203, u204, u205, u206, u207, u208, u209, u210, u211, u212, u213, u214, u215, u216, u217, u218, u219, u220, u221, u222, u223, u224, u225, u226, u227, u228, u229, u230, u231, u232, u233, u234, u235, u236, u237, u238, u239, u240, u241, u242, u243, u244, u245, u246, u247, u248, u249, u250, u251, u252, u253, u254, u255, u256], defers := [] } V3q := by
 conv => arg 2; whnf
 have kc := E3.out.blk.cell
 have k3 := kc 3
 clear kc
 simp only [cmc, List.getElem?_toArray, List.getElem?_cons_zero, List.getElem?_cons_succ] at k3
 have kl := E3.out.blk.lt
 go_wp2_with fail
 refine (hasS_call y.kind _ HK.out.1).mono ?_
 rintro e X3 ⟨rfl, kk⟩
 have F3 := Lib.hid (E3.out.quiet kk)
 clear kk k3 kl
 go_upto_if 83 with fail
 go_cut [5] (fun v wx => ∃ (a : Option Addr) (n c : Nat) (L : List It), v = .slice a n c ∧ n ≤ 8 ∧ Hid (L = L3q ++ (if (hasS y.kind) = true then [tI y.salt] else [])) ∧ Hid (Ib V1 wx b 44 (cmc y (.slice d1 y.ifs.length e1) (.slice d2 y.thens.length e2) (.slice d3 y.elses.length e3)).toArray a n c L))
 case first =>
  cases hN : (hasS y.kind) with
  | false =>
   have HN := Lib.hid hN
   clear hN
   go_wp2_with fail
   go_meet
   exact ⟨_, _, _, L3q, rfl, by omega, Lib.hid (by rw [HN.out]; simp), F3⟩
  | true =>
   have HN := Lib.hid hN
   clear hN
   obtain ⟨i0, hi, hz0, hz1, hz2⟩ := info_parts Try.info_item
   have HI := Lib.hid (And.intro hi (And.intro hz0 (And.intro hz1 hz2)))
   clear hi hz0 hz1 hz2
   have pc := F3.out.blk.cell
   have p7 := pc 7
   clear pc
   simp only [cmc, List.getElem?_toArray, List.getElem?_cons_zero, List.getElem?_cons_succ] at p7
   have pl := F3.out.blk.lt
   go_wp2_with fail
   refine (rtx_any y.salt _).mono ?_
   rintro e X11 ⟨rfl, kk⟩
   have C11 := Lib.hid (F3.out.quiet kk)
   clear kk p7 pl
   obtain ⟨g12, hg⟩ : ∃ g, g = X11.heap.size := ⟨_, rfl⟩
   obtain ⟨Y12, hW⟩ : ∃ Y, Y = X11.alloc (.cells #[.int .i64 1, .int .i64 0, .string ⟨y.salt.toArray⟩, .bool false] 88) := ⟨_, rfl⟩
   have B12 : Hid (Ib V1 Y12 b 44 (cmc y (.slice d1 y.ifs.length e1) (.slice d2 y.thens.length e2) (.slice d3 y.elses.length e3)).toArray a3q n3q c3q L3q ∧ Rd Y12 4 (some ⟨g12, 0, none⟩) 1 (itcs [tI y.salt])) := Lib.hid (by rw [hW, hg]; exact ⟨C11.out.alloc _, rd_blk' (xs := itcs [tI y.salt]) (Blk.new X11 88 _) 4 1 rfl⟩)
   have HY12 := Lib.hid hW
   have HG12 := Lib.hid hg
   clear hW hg
   go_wp2_with (at_builtin; rw [show X11.heap.size = g12 from HG12.out.symm, show X11.alloc (.cells #[.int .i64 1, .int .i64 0, .string ⟨y.salt.toArray⟩, .bool false] 88) = Y12 from HY12.out.symm]; refine wpList_append_row rfl (.tmp 84) (.tmp 88) 89 89 rfl 88 i0 _ 4 40 Try.underlying89 HI.out.1 HI.out.2.1 HI.out.2.2.1 HI.out.2.2.2 rfl rfl B12.out.1.row rfl (Src.rd (n := 1) 89 88 Try.underlying89 B12.out.2 (itcs_one _)) (by unfold maxLen; omega) (by omega) (by omega) ?_; intro a12 c12 w12 hr st; have A12 : Hid (Ib V1 w12 b 44 (cmc y (.slice d1 y.ifs.length e1) (.slice d2 y.thens.length e2) (.slice d3 y.elses.length e3)).toArray a12 (n3q + 1) c12 (L3q ++ [tI y.salt])) := Lib.hid (B12.out.1.app hr st); clear hr st)
   clear HY12 HG12 C11 B12
   go_meet
   exact ⟨_, _, _, (L3q ++ [tI y.salt]), rfl, by omega, Lib.hid (by rw [HN.out]; simp), A12⟩
 case rest =>
  rename World => V4q
  obtain ⟨a4q, n4q, c4q, L4q, rfl, hn4, HE4, E4⟩ := hcut
  rename ∀ (a : Act) (w : World), Code.wp _ _ _ a w → _ => hK
  refine hK _ _ ?_
  exact rby4 H2 HK HBY HLY HID hn4 (Lib.hid (by rw [HE4.out, HE3.out])) E4
set_option maxHeartbeats 16000000 in
theorem rby2 {x y : Cm} {a1 a2 a3 d1 d2 d3 : Option Addr} {c1 c2 c3 e1 e2 e3 : Nat} {w V1 : World} {b : Nat} {V2q : World} {a2q : Option Addr} {n2q c2q : Nat} {L2q : List It} (H2 : Hid (Blk V1 b 44 (cmc y (.slice d1 y.ifs.length e1) (.slice d2 y.thens.length e2) (.slice d3 y.elses.length e3)).toArray ∧ RdC V1 y d1 d2 d3 ∧ Step [] [] w V1)) (HK : Hid (isK y.kind = true ∧ cleanC y = y ∧ refBq x = refB y)) (HBY : Hid (CmB y)) (HLY : Hid (LenS y)) (HID : Hid (okIds y.client y.seq = true)) (hn2 : n2q ≤ 6) (HE2 : Hid (L2q = [nI y.kind, nI y.client, nI y.seq, tI y.token] ++ (if (hasN y.kind) = true then [tI y.name] else []) ++ (if (hasO y.kind) = true then [tI y.other] else []))) (E2 : Hid (Ib V1 V2q b 44 (cmc y (.slice d1 y.ifs.length e1) (.slice d2 y.thens.length e2) (.slice d3 y.elses.length e3)).toArray a2q n2q c2q L2q)) :
  Code.wp Try.prog (cright 6 (Try.f44.body.getD .skip)) (bodyPost Try.prog Try.f44 (fun e w' => e = .returned (.tuple #[Str (refBq x).1, .int .i64 (refBq x).2]) ∧ Step [] [] w w')) { tmps := #[cmV x (.slice a1 x.ifs.length c1) (.slice a2 x.thens.length c2) (.slice a3 x.elses.length c3), .pointer (some ⟨b, 0, none⟩), u2, u3, .bool true, .slice a2q n2q c2q, u6, u7, u8, u9, u10, u11, u12, u13, u14, u15, u16, u17, u18, u19, u20, u21, u22, u23, u24, u25, u26, u27, u28, u29, u30, u31, u32, u33, u34, u35, u36, u37, u38, u39, u40, u41, u42, u43, u44, u45, u46, u47, u48, u49, u50, u51, u52, u53, u54, u55, u56, u57, u58, u59, u60, u61, u62, u63, u64, u65, u66, u67, u68, u69, u70, u71, u72, u73, u74, u75, u76, u77, u78, u79, u80, u81, u82, u83, u84, u85, u86, u87, u88, u89, u90, u91, u92, u93, u94, u95, u96, u97, u98, u99, u100, u101, u102, u103, u104, u105, u106, u107, u108, u109, u110, u111, u112, u113, u114, u115, u116, u117, u118, u119, u120, u121, u122, u123, u124, u125, u126, u127, u128, u129, u130, u131, u132, u133, u134, u135, u136, u137, u138, u139, u140, u141, u142, u143, u144, u145, u146, u147, u148, u149, u150, u151, u152, u153, u154, u155, u156, u157, u158, u159, u160, u161, u162, u163, u164, u165, u166, u167, u168, u169, u170, u171, u172, u173, u174, u175, u176, u177, u178, u179, u180, u181, u182, u183, u184, u185, u186, u187, u188, u189, u190, u191, u192, u193, u194, u195, u196, u197, u198, u199, u200, u201, u202, u203, u204, u205, u206, u207, u208, u209, u210, u211, u212, u213, u214, u215, u216, u217, u218, u219, u220, u221, u222, u223, u224, u225, u226, u227, u228, u229, u230, u231, u232, u233, u234, u235, u236, u237, u238, u239, u240, u241, u242, u243, u244, u245, u246, u247, u248, u249, u250, u251, u252, u253, u254, u255, u256], defers := [] } V2q := by
 conv => arg 2; whnf
 have kc := E2.out.blk.cell
 have k3 := kc 3
 clear kc
 simp only [cmc, List.getElem?_toArray, List.getElem?_cons_zero, List.getElem?_cons_succ] at k3
 have kl := E2.out.blk.lt
 go_wp2_with fail
 refine (hasW_call y.kind _ HK.out.1).mono ?_
 rintro e X2 ⟨rfl, kk⟩
 have F2 := Lib.hid (E2.out.quiet kk)
 clear kk k3 kl
 go_upto_if 74 with fail
 go_cut [5] (fun v wx => ∃ (a : Option Addr) (n c : Nat) (L : List It), v = .slice a n c ∧ n ≤ 7 ∧ Hid (L = L2q ++ (if (hasW y.kind) = true then [tI y.word] else [])) ∧ Hid (Ib V1 wx b 44 (cmc y (.slice d1 y.ifs.length e1) (.slice d2 y.thens.length e2) (.slice d3 y.elses.length e3)).toArray a n c L))
 case first =>
  cases hN : (hasW y.kind) with
  | false =>
   have HN := Lib.hid hN
   clear hN
   go_wp2_with fail
   go_meet
   exact ⟨_, _, _, L2q, rfl, by omega, Lib.hid (by rw [HN.out]; simp), F2⟩
  | true =>
   have HN := Lib.hid hN
   clear hN
   obtain ⟨i0, hi, hz0, hz1, hz2⟩ := info_parts Try.info_item
   have HI := Lib.hid (And.intro hi (And.intro hz0 (And.intro hz1 hz2)))
   clear hi hz0 hz1 hz2
   have pc := F2.out.blk.cell
   have p6 := pc 6
   clear pc
   simp only [cmc, List.getElem?_toArray, List.getElem?_cons_zero, List.getElem?_cons_succ] at p6
   have pl := F2.out.blk.lt
   go_wp2_with fail
   refine (rtx_any y.word _).mono ?_
   rintro e X9 ⟨rfl, kk⟩
   have C9 := Lib.hid (F2.out.quiet kk)
   clear kk p6 pl
   obtain ⟨g10, hg⟩ : ∃ g, g = X9.heap.size := ⟨_, rfl⟩
   obtain ⟨Y10, hW⟩ : ∃ Y, Y = X9.alloc (.cells #[.int .i64 1, .int .i64 0, .string ⟨y.word.toArray⟩, .bool false] 88) := ⟨_, rfl⟩
   have B10 : Hid (Ib V1 Y10 b 44 (cmc y (.slice d1 y.ifs.length e1) (.slice d2 y.thens.length e2) (.slice d3 y.elses.length e3)).toArray a2q n2q c2q L2q ∧ Rd Y10 4 (some ⟨g10, 0, none⟩) 1 (itcs [tI y.word])) := Lib.hid (by rw [hW, hg]; exact ⟨C9.out.alloc _, rd_blk' (xs := itcs [tI y.word]) (Blk.new X9 88 _) 4 1 rfl⟩)
   have HY10 := Lib.hid hW
   have HG10 := Lib.hid hg
   clear hW hg
   go_wp2_with (at_builtin; rw [show X9.heap.size = g10 from HG10.out.symm, show X9.alloc (.cells #[.int .i64 1, .int .i64 0, .string ⟨y.word.toArray⟩, .bool false] 88) = Y10 from HY10.out.symm]; refine wpList_append_row rfl (.tmp 75) (.tmp 79) 89 89 rfl 88 i0 _ 4 40 Try.underlying89 HI.out.1 HI.out.2.1 HI.out.2.2.1 HI.out.2.2.2 rfl rfl B10.out.1.row rfl (Src.rd (n := 1) 89 88 Try.underlying89 B10.out.2 (itcs_one _)) (by unfold maxLen; omega) (by omega) (by omega) ?_; intro a10 c10 w10 hr st; have A10 : Hid (Ib V1 w10 b 44 (cmc y (.slice d1 y.ifs.length e1) (.slice d2 y.thens.length e2) (.slice d3 y.elses.length e3)).toArray a10 (n2q + 1) c10 (L2q ++ [tI y.word])) := Lib.hid (B10.out.1.app hr st); clear hr st)
   clear HY10 HG10 C9 B10
   go_meet
   exact ⟨_, _, _, (L2q ++ [tI y.word]), rfl, by omega, Lib.hid (by rw [HN.out]; simp), A10⟩
 case rest =>
  rename World => V3q
  obtain ⟨a3q, n3q, c3q, L3q, rfl, hn3, HE3, E3⟩ := hcut
  rename ∀ (a : Act) (w : World), Code.wp _ _ _ a w → _ => hK
  refine hK _ _ ?_
  exact rby3 H2 HK HBY HLY HID hn3 (Lib.hid (by rw [HE3.out, HE2.out])) E3
set_option maxHeartbeats 16000000 in
theorem rby1 {x y : Cm} {a1 a2 a3 d1 d2 d3 : Option Addr} {c1 c2 c3 e1 e2 e3 : Nat} {w V1 : World} {b : Nat} {V1q : World} {a1q : Option Addr} {n1q c1q : Nat} {L1q : List It} (H2 : Hid (Blk V1 b 44 (cmc y (.slice d1 y.ifs.length e1) (.slice d2 y.thens.length e2) (.slice d3 y.elses.length e3)).toArray ∧ RdC V1 y d1 d2 d3 ∧ Step [] [] w V1)) (HK : Hid (isK y.kind = true ∧ cleanC y = y ∧ refBq x = refB y)) (HBY : Hid (CmB y)) (HLY : Hid (LenS y)) (HID : Hid (okIds y.client y.seq = true)) (hn1 : n1q ≤ 5) (HE1 : Hid (L1q = [nI y.kind, nI y.client, nI y.seq, tI y.token] ++ (if (hasN y.kind) = true then [tI y.name] else []))) (E1 : Hid (Ib V1 V1q b 44 (cmc y (.slice d1 y.ifs.length e1) (.slice d2 y.thens.length e2) (.slice d3 y.elses.length e3)).toArray a1q n1q c1q L1q)) :
  Code.wp Try.prog (cright 5 (Try.f44.body.getD .skip)) (bodyPost Try.prog Try.f44 (fun e w' => e = .returned (.tuple #[Str (refBq x).1, .int .i64 (refBq x).2]) ∧ Step [] [] w w')) { tmps := #[cmV x (.slice a1 x.ifs.length c1) (.slice a2 x.thens.length c2) (.slice a3 x.elses.length c3), .pointer (some ⟨b, 0, none⟩), u2, u3, .bool true, .slice a1q n1q c1q, u6, u7, u8, u9, u10, u11, u12, u13, u14, u15, u16, u17, u18, u19, u20, u21, u22, u23, u24, u25, u26, u27, u28, u29, u30, u31, u32, u33, u34, u35, u36, u37, u38, u39, u40, u41, u42, u43, u44, u45, u46, u47, u48, u49, u50, u51, u52, u53, u54, u55, u56, u57, u58, u59, u60, u61, u62, u63, u64, u65, u66, u67, u68, u69, u70, u71, u72, u73, u74, u75, u76, u77, u78, u79, u80, u81, u82, u83, u84, u85, u86, u87, u88, u89, u90, u91, u92, u93, u94, u95, u96, u97, u98, u99, u100, u101, u102, u103, u104, u105, u106, u107, u108, u109, u110, u111, u112, u113, u114, u115, u116, u117, u118, u119, u120, u121, u122, u123, u124, u125, u126, u127, u128, u129, u130, u131, u132, u133, u134, u135, u136, u137, u138, u139, u140, u141, u142, u143, u144, u145, u146, u147, u148, u149, u150, u151, u152, u153, u154, u155, u156, u157, u158, u159, u160, u161, u162, u163, u164, u165, u166, u167, u168, u169, u170, u171, u172, u173, u174, u175, u176, u177, u178, u179, u180, u181, u182, u183, u184, u185, u186, u187, u188, u189, u190, u191, u192, u193, u194, u195, u196, u197, u198, u199, u200, u201, u202, u203, u204, u205, u206, u207, u208, u209, u210, u211, u212, u213, u214, u215, u216, u217, u218, u219, u220, u221, u222, u223, u224, u225, u226, u227, u228, u229, u230, u231, u232, u233, u234, u235, u236, u237, u238, u239, u240, u241, u242, u243, u244, u245, u246, u247, u248, u249, u250, u251, u252, u253, u254, u255, u256], defers := [] } V1q := by
 conv => arg 2; whnf
 have kc := E1.out.blk.cell
 have k3 := kc 3
 clear kc
 simp only [cmc, List.getElem?_toArray, List.getElem?_cons_zero, List.getElem?_cons_succ] at k3
 have kl := E1.out.blk.lt
 go_wp2_with fail
 refine (hasO_call y.kind _ HK.out.1).mono ?_
 rintro e X1 ⟨rfl, kk⟩
 have F1 := Lib.hid (E1.out.quiet kk)
 clear kk k3 kl
 go_upto_if 65 with fail
 go_cut [5] (fun v wx => ∃ (a : Option Addr) (n c : Nat) (L : List It), v = .slice a n c ∧ n ≤ 6 ∧ Hid (L = L1q ++ (if (hasO y.kind) = true then [tI y.other] else [])) ∧ Hid (Ib V1 wx b 44 (cmc y (.slice d1 y.ifs.length e1) (.slice d2 y.thens.length e2) (.slice d3 y.elses.length e3)).toArray a n c L))
 case first =>
  cases hN : (hasO y.kind) with
  | false =>
   have HN := Lib.hid hN
   clear hN
   go_wp2_with fail
   go_meet
   exact ⟨_, _, _, L1q, rfl, by omega, Lib.hid (by rw [HN.out]; simp), F1⟩
  | true =>
   have HN := Lib.hid hN
   clear hN
   obtain ⟨i0, hi, hz0, hz1, hz2⟩ := info_parts Try.info_item
   have HI := Lib.hid (And.intro hi (And.intro hz0 (And.intro hz1 hz2)))
   clear hi hz0 hz1 hz2
   have pc := F1.out.blk.cell
   have p5 := pc 5
   clear pc
   simp only [cmc, List.getElem?_toArray, List.getElem?_cons_zero, List.getElem?_cons_succ] at p5
   have pl := F1.out.blk.lt
   go_wp2_with fail
   refine (rtx_any y.other _).mono ?_
   rintro e X7 ⟨rfl, kk⟩
   have C7 := Lib.hid (F1.out.quiet kk)
   clear kk p5 pl
   obtain ⟨g8, hg⟩ : ∃ g, g = X7.heap.size := ⟨_, rfl⟩
   obtain ⟨Y8, hW⟩ : ∃ Y, Y = X7.alloc (.cells #[.int .i64 1, .int .i64 0, .string ⟨y.other.toArray⟩, .bool false] 88) := ⟨_, rfl⟩
   have B8 : Hid (Ib V1 Y8 b 44 (cmc y (.slice d1 y.ifs.length e1) (.slice d2 y.thens.length e2) (.slice d3 y.elses.length e3)).toArray a1q n1q c1q L1q ∧ Rd Y8 4 (some ⟨g8, 0, none⟩) 1 (itcs [tI y.other])) := Lib.hid (by rw [hW, hg]; exact ⟨C7.out.alloc _, rd_blk' (xs := itcs [tI y.other]) (Blk.new X7 88 _) 4 1 rfl⟩)
   have HY8 := Lib.hid hW
   have HG8 := Lib.hid hg
   clear hW hg
   go_wp2_with (at_builtin; rw [show X7.heap.size = g8 from HG8.out.symm, show X7.alloc (.cells #[.int .i64 1, .int .i64 0, .string ⟨y.other.toArray⟩, .bool false] 88) = Y8 from HY8.out.symm]; refine wpList_append_row rfl (.tmp 66) (.tmp 70) 89 89 rfl 88 i0 _ 4 40 Try.underlying89 HI.out.1 HI.out.2.1 HI.out.2.2.1 HI.out.2.2.2 rfl rfl B8.out.1.row rfl (Src.rd (n := 1) 89 88 Try.underlying89 B8.out.2 (itcs_one _)) (by unfold maxLen; omega) (by omega) (by omega) ?_; intro a8 c8 w8 hr st; have A8 : Hid (Ib V1 w8 b 44 (cmc y (.slice d1 y.ifs.length e1) (.slice d2 y.thens.length e2) (.slice d3 y.elses.length e3)).toArray a8 (n1q + 1) c8 (L1q ++ [tI y.other])) := Lib.hid (B8.out.1.app hr st); clear hr st)
   clear HY8 HG8 C7 B8
   go_meet
   exact ⟨_, _, _, (L1q ++ [tI y.other]), rfl, by omega, Lib.hid (by rw [HN.out]; simp), A8⟩
 case rest =>
  rename World => V2q
  obtain ⟨a2q, n2q, c2q, L2q, rfl, hn2, HE2, E2⟩ := hcut
  rename ∀ (a : Act) (w : World), Code.wp _ _ _ a w → _ => hK
  refine hK _ _ ?_
  exact rby2 H2 HK HBY HLY HID hn2 (Lib.hid (by rw [HE2.out, HE1.out])) E2
set_option maxHeartbeats 16000000 in
theorem rby0 {x y : Cm} {a1 a2 a3 d1 d2 d3 : Option Addr} {c1 c2 c3 e1 e2 e3 : Nat} {w V1 : World} {b : Nat} {V0q : World} {a0q : Option Addr} {n0q c0q : Nat} {L0q : List It} (H2 : Hid (Blk V1 b 44 (cmc y (.slice d1 y.ifs.length e1) (.slice d2 y.thens.length e2) (.slice d3 y.elses.length e3)).toArray ∧ RdC V1 y d1 d2 d3 ∧ Step [] [] w V1)) (HK : Hid (isK y.kind = true ∧ cleanC y = y ∧ refBq x = refB y)) (HBY : Hid (CmB y)) (HLY : Hid (LenS y)) (HID : Hid (okIds y.client y.seq = true)) (hn0 : n0q ≤ 4) (HE0 : Hid (L0q = [nI y.kind, nI y.client, nI y.seq, tI y.token])) (E0 : Hid (Ib V1 V0q b 44 (cmc y (.slice d1 y.ifs.length e1) (.slice d2 y.thens.length e2) (.slice d3 y.elses.length e3)).toArray a0q n0q c0q L0q)) :
  Code.wp Try.prog (cright 4 (Try.f44.body.getD .skip)) (bodyPost Try.prog Try.f44 (fun e w' => e = .returned (.tuple #[Str (refBq x).1, .int .i64 (refBq x).2]) ∧ Step [] [] w w')) { tmps := #[cmV x (.slice a1 x.ifs.length c1) (.slice a2 x.thens.length c2) (.slice a3 x.elses.length c3), .pointer (some ⟨b, 0, none⟩), u2, u3, .bool true, .slice a0q n0q c0q, u6, u7, u8, u9, u10, u11, u12, u13, u14, u15, u16, u17, u18, u19, u20, u21, u22, u23, u24, u25, u26, u27, u28, u29, u30, u31, u32, u33, u34, u35, u36, u37, u38, u39, u40, u41, u42, u43, u44, u45, u46, u47, u48, u49, u50, u51, u52, u53, u54, u55, u56, u57, u58, u59, u60, u61, u62, u63, u64, u65, u66, u67, u68, u69, u70, u71, u72, u73, u74, u75, u76, u77, u78, u79, u80, u81, u82, u83, u84, u85, u86, u87, u88, u89, u90, u91, u92, u93, u94, u95, u96, u97, u98, u99, u100, u101, u102, u103, u104, u105, u106, u107, u108, u109, u110, u111, u112, u113, u114, u115, u116, u117, u118, u119, u120, u121, u122, u123, u124, u125, u126, u127, u128, u129, u130, u131, u132, u133, u134, u135, u136, u137, u138, u139, u140, u141, u142, u143, u144, u145, u146, u147, u148, u149, u150, u151, u152, u153, u154, u155, u156, u157, u158, u159, u160, u161, u162, u163, u164, u165, u166, u167, u168, u169, u170, u171, u172, u173, u174, u175, u176, u177, u178, u179, u180, u181, u182, u183, u184, u185, u186, u187, u188, u189, u190, u191, u192, u193, u194, u195, u196, u197, u198, u199, u200, u201, u202, u203, u204, u205, u206, u207, u208, u209, u210, u211, u212, u213, u214, u215, u216, u217, u218, u219, u220, u221, u222, u223, u224, u225, u226, u227, u228, u229, u230, u231, u232, u233, u234, u235, u236, u237, u238, u239, u240, u241, u242, u243, u244, u245, u246, u247, u248, u249, u250, u251, u252, u253, u254, u255, u256], defers := [] } V0q := by
 conv => arg 2; whnf
 have kc := E0.out.blk.cell
 have k3 := kc 3
 clear kc
 simp only [cmc, List.getElem?_toArray, List.getElem?_cons_zero, List.getElem?_cons_succ] at k3
 have kl := E0.out.blk.lt
 go_wp2_with fail
 refine (hasN_call y.kind _ HK.out.1).mono ?_
 rintro e X0 ⟨rfl, kk⟩
 have F0 := Lib.hid (E0.out.quiet kk)
 clear kk k3 kl
 go_upto_if 56 with fail
 go_cut [5] (fun v wx => ∃ (a : Option Addr) (n c : Nat) (L : List It), v = .slice a n c ∧ n ≤ 5 ∧ Hid (L = L0q ++ (if (hasN y.kind) = true then [tI y.name] else [])) ∧ Hid (Ib V1 wx b 44 (cmc y (.slice d1 y.ifs.length e1) (.slice d2 y.thens.length e2) (.slice d3 y.elses.length e3)).toArray a n c L))
 case first =>
  cases hN : (hasN y.kind) with
  | false =>
   have HN := Lib.hid hN
   clear hN
   go_wp2_with fail
   go_meet
   exact ⟨_, _, _, L0q, rfl, by omega, Lib.hid (by rw [HN.out]; simp), F0⟩
  | true =>
   have HN := Lib.hid hN
   clear hN
   obtain ⟨i0, hi, hz0, hz1, hz2⟩ := info_parts Try.info_item
   have HI := Lib.hid (And.intro hi (And.intro hz0 (And.intro hz1 hz2)))
   clear hi hz0 hz1 hz2
   have pc := F0.out.blk.cell
   have p4 := pc 4
   clear pc
   simp only [cmc, List.getElem?_toArray, List.getElem?_cons_zero, List.getElem?_cons_succ] at p4
   have pl := F0.out.blk.lt
   go_wp2_with fail
   refine (rtx_any y.name _).mono ?_
   rintro e X5 ⟨rfl, kk⟩
   have C5 := Lib.hid (F0.out.quiet kk)
   clear kk p4 pl
   obtain ⟨g6, hg⟩ : ∃ g, g = X5.heap.size := ⟨_, rfl⟩
   obtain ⟨Y6, hW⟩ : ∃ Y, Y = X5.alloc (.cells #[.int .i64 1, .int .i64 0, .string ⟨y.name.toArray⟩, .bool false] 88) := ⟨_, rfl⟩
   have B6 : Hid (Ib V1 Y6 b 44 (cmc y (.slice d1 y.ifs.length e1) (.slice d2 y.thens.length e2) (.slice d3 y.elses.length e3)).toArray a0q n0q c0q L0q ∧ Rd Y6 4 (some ⟨g6, 0, none⟩) 1 (itcs [tI y.name])) := Lib.hid (by rw [hW, hg]; exact ⟨C5.out.alloc _, rd_blk' (xs := itcs [tI y.name]) (Blk.new X5 88 _) 4 1 rfl⟩)
   have HY6 := Lib.hid hW
   have HG6 := Lib.hid hg
   clear hW hg
   go_wp2_with (at_builtin; rw [show X5.heap.size = g6 from HG6.out.symm, show X5.alloc (.cells #[.int .i64 1, .int .i64 0, .string ⟨y.name.toArray⟩, .bool false] 88) = Y6 from HY6.out.symm]; refine wpList_append_row rfl (.tmp 57) (.tmp 61) 89 89 rfl 88 i0 _ 4 40 Try.underlying89 HI.out.1 HI.out.2.1 HI.out.2.2.1 HI.out.2.2.2 rfl rfl B6.out.1.row rfl (Src.rd (n := 1) 89 88 Try.underlying89 B6.out.2 (itcs_one _)) (by unfold maxLen; omega) (by omega) (by omega) ?_; intro a6 c6 w6 hr st; have A6 : Hid (Ib V1 w6 b 44 (cmc y (.slice d1 y.ifs.length e1) (.slice d2 y.thens.length e2) (.slice d3 y.elses.length e3)).toArray a6 (n0q + 1) c6 (L0q ++ [tI y.name])) := Lib.hid (B6.out.1.app hr st); clear hr st)
   clear HY6 HG6 C5 B6
   go_meet
   exact ⟨_, _, _, (L0q ++ [tI y.name]), rfl, by omega, Lib.hid (by rw [HN.out]; simp), A6⟩
 case rest =>
  rename World => V1q
  obtain ⟨a1q, n1q, c1q, L1q, rfl, hn1, HE1, E1⟩ := hcut
  rename ∀ (a : Act) (w : World), Code.wp _ _ _ a w → _ => hK
  refine hK _ _ ?_
  exact rby1 H2 HK HBY HLY HID hn1 (Lib.hid (by rw [HE1.out, HE0.out])) E1
end
set_option maxHeartbeats 16000000 in
theorem rbytes_any (x : Cm) (a1 a2 a3 : Option Addr) (c1 c2 c3 : Nat) (w : World) (hr : RdC w x a1 a2 a3) (hB : CmB x) (hL : LenS x) : Calls Try.prog 44 #[cmV x (.slice a1 x.ifs.length c1) (.slice a2 x.thens.length c2) (.slice a3 x.elses.length c3)] w fun e w' => e = .returned (.tuple #[Str (refBq x).1, .int .i64 (refBq x).2]) ∧ Step [] [] w w' := by
 have H00 : Hid (Blk (w.alloc (.cells (cmc x (.slice a1 x.ifs.length c1) (.slice a2 x.thens.length c2) (.slice a3 x.elses.length c3)).toArray 44)) w.heap.size 44 (cmc x (.slice a1 x.ifs.length c1) (.slice a2 x.thens.length c2) (.slice a3 x.elses.length c3)).toArray ∧ RdC (w.alloc (.cells (cmc x (.slice a1 x.ifs.length c1) (.slice a2 x.thens.length c2) (.slice a3 x.elses.length c3)).toArray 44)) x a1 a2 a3 ∧ Step [] [] w (w.alloc (.cells (cmc x (.slice a1 x.ifs.length c1) (.slice a2 x.thens.length c2) (.slice a3 x.elses.length c3)).toArray 44))) := Lib.hid ⟨Blk.new w _ _, hr.step ((Step.refl [] w).alloc _), (Step.refl [] w).alloc _⟩
 have HB := Lib.hid hB
 have HLS := Lib.hid hL
 have HLC : Hid (LenC x) := Lib.hid ⟨by have := hL.i; omega, by have := hL.t; omega, by have := hL.e; omega⟩
 clear hr hB hL
 go_enter Try.func44, Try.ntmps44
 go_upto_region 1 with fail
 change Code.wp _ _ _ _ (w.alloc (.cells (cmc x (.slice a1 x.ifs.length c1) (.slice a2 x.thens.length c2) (.slice a3 x.elses.length c3)).toArray 44))
 obtain ⟨b, hb⟩ : ∃ b, b = w.heap.size := ⟨_, rfl⟩
 obtain ⟨V, hV⟩ : ∃ V, V = (w.alloc (.cells (cmc x (.slice a1 x.ifs.length c1) (.slice a2 x.thens.length c2) (.slice a3 x.elses.length c3)).toArray 44)) := ⟨_, rfl⟩
 rw [← hV, ← hb] at H00
 have H0 := H00
 rw [← hV]
 try rw [← hb]
 have HBE := Lib.hid hb
 clear hV hb H00
 go_wp2_with (refine wpList_loadRow (T := 44) (b := b) (T' := 44) (cs := (cmc x (.slice a1 x.ifs.length c1) (.slice a2 x.thens.length c2) (.slice a3 x.elses.length c3)).toArray) rfl (.tmp 1) rfl rfl Try.sCmd H0.out.1 ?_)
 refine (rcleanF_any x a1 a2 a3 c1 c2 c3 V H0.out.2.1 HLC.out).mono ?_
 rintro e X1 ⟨d1, e1, d2, e2, d3, e3, rfl, r4, hfr, k4⟩
 obtain ⟨y, hy⟩ : ∃ y, y = cleanC x := ⟨_, rfl⟩
 have HY := Lib.hid hy
 rw [← hy] at r4 ⊢
 have H1 : Hid (Blk X1 b 44 (cmc x (.slice a1 x.ifs.length c1) (.slice a2 x.thens.length c2) (.slice a3 x.elses.length c3)).toArray ∧ RdC X1 y d1 d2 d3 ∧ Step [] [] w X1 ∧ (∀ g, (g ∈ blks d1 ∨ g ∈ blks d2 ∨ g ∈ blks d3) → g ≠ b)) := Lib.hid ⟨H0.out.1.step k4 (by simp), r4, H0.out.2.2.trans k4, fun g hg e => by have := hfr g hg; have := H0.out.1.lt; omega⟩
 clear k4 r4 hfr hy H0
 go_upto_region 2 with (refine wpList_storeRow (T := 44) (b := b) (T' := 44) (cs := (cmc x (.slice a1 x.ifs.length c1) (.slice a2 x.thens.length c2) (.slice a3 x.elses.length c3)).toArray) (vs := (cmc y (.slice d1 y.ifs.length e1) (.slice d2 y.thens.length e2) (.slice d3 y.elses.length e3)).toArray) rfl (.tmp 1) (.tmp 17) rfl rfl rfl Try.sCmd H1.out.1 rfl (cmc_one _ _ _ _ rfl rfl rfl) ?_; intro V1 hU ss)
 have H2 : Hid (Blk V1 b 44 (cmc y (.slice d1 y.ifs.length e1) (.slice d2 y.thens.length e2) (.slice d3 y.elses.length e3)).toArray ∧ RdC V1 y d1 d2 d3 ∧ Step [] [] w V1) := Lib.hid ⟨hU, ⟨H1.out.2.1.i.step ss (fun g hg e => by simp at e; exact H1.out.2.2.2 g (.inl hg) e), H1.out.2.1.t.step ss (fun g hg e => by simp at e; exact H1.out.2.2.2 g (.inr (.inl hg)) e), H1.out.2.1.e.step ss (fun g hg e => by simp at e; exact H1.out.2.2.2 g (.inr (.inr hg)) e)⟩, H1.out.2.2.1.out1' ss (by have := HBE.out; simp; omega)⟩
 clear hU ss H1 HBE
 have pc := H2.out.1.cell
 have p0 := pc 0
 have p1 := pc 1
 clear pc
 simp only [cmc, List.getElem?_toArray, List.getElem?_cons_zero, List.getElem?_cons_succ] at p0 p1
 have pl := H2.out.1.lt
 cases hik : isK x.kind with
 | false =>
  have HV : Hid (refBq x = ([], 1)) := Lib.hid (by simp [refBq, hik])
  clear hik
  go_wp2_with fail
  exact bodyPost_ret (results_tmp2 rfl _ _ _) rfl ⟨by rw [HV.out]; rfl, H2.out.2.2⟩
 | true =>
  have HK : Hid (isK y.kind = true ∧ cleanC y = y ∧ refBq x = refB y) := Lib.hid ⟨by rw [HY.out, clean_kind hik]; exact hik, by rw [HY.out]; exact clean_twice hik, by rw [refBq, if_pos hik, HY.out]⟩
  have HBY : Hid (CmB y) := Lib.hid (by rw [HY.out]; exact HB.out.clean)
  have HLY : Hid (LenS y) := Lib.hid (by rw [HY.out]; exact HLS.out.clean)
  clear hik
  by_cases t0 : y.client < 1
  ·have HV : Hid (refBq x = ([], 1)) := Lib.hid (by have hi : okIds y.client y.seq = false := by (cases hq : okIds y.client y.seq with | false => rfl | true => have := okIds_iff.1 hq; omega)
                                                    rw [HK.out.2.2, refB, if_pos hi])
   go_wp2_with fail
   exact bodyPost_ret (results_tmp2 rfl _ _ _) rfl ⟨by rw [HV.out]; rfl, H2.out.2.2⟩
  have t0d : decide (y.client < 1) = false := decide_eq_false t0
  by_cases t1 : (8 : Int) < y.client
  ·have HV : Hid (refBq x = ([], 1)) := Lib.hid (by have hi : okIds y.client y.seq = false := by (cases hq : okIds y.client y.seq with | false => rfl | true => have := okIds_iff.1 hq; omega)
                                                    rw [HK.out.2.2, refB, if_pos hi])
   go_wp2_with fail
   exact bodyPost_ret (results_tmp2 rfl _ _ _) rfl ⟨by rw [HV.out]; rfl, H2.out.2.2⟩
  have t1d : decide ((8 : Int) < y.client) = false := decide_eq_false t1
  by_cases t2 : y.seq < 1
  ·have HV : Hid (refBq x = ([], 1)) := Lib.hid (by have hi : okIds y.client y.seq = false := by (cases hq : okIds y.client y.seq with | false => rfl | true => have := okIds_iff.1 hq; omega)
                                                    rw [HK.out.2.2, refB, if_pos hi])
   go_wp2_with fail
   exact bodyPost_ret (results_tmp2 rfl _ _ _) rfl ⟨by rw [HV.out]; rfl, H2.out.2.2⟩
  have t2d : decide (y.seq < 1) = false := decide_eq_false t2
  by_cases t3 : (1099511627776 : Int) < y.seq
  ·have HV : Hid (refBq x = ([], 1)) := Lib.hid (by have hi : okIds y.client y.seq = false := by (cases hq : okIds y.client y.seq with | false => rfl | true => have := okIds_iff.1 hq; omega)
                                                    rw [HK.out.2.2, refB, if_pos hi])
   go_wp2_with fail
   exact bodyPost_ret (results_tmp2 rfl _ _ _) rfl ⟨by rw [HV.out]; rfl, H2.out.2.2⟩
  have t3d : decide ((1099511627776 : Int) < y.seq) = false := decide_eq_false t3
  have HID : Hid (okIds y.client y.seq = true) := Lib.hid (okIds_iff.2 ⟨⟨by omega, by omega⟩, ⟨by omega, by omega⟩⟩)
  go_upto_region 4 with fail
  clear p0 p1 pl t0 t1 t2 t3 t0d t1d t2d t3d
  go_cut [5] (fun v wx => ∃ (a : Option Addr) (n c : Nat) (L : List It), v = .slice a n c ∧ n ≤ 4 ∧ Hid (L = [nI y.kind, nI y.client, nI y.seq, tI y.token]) ∧ Hid (Ib V1 wx b 44 (cmc y (.slice d1 y.ifs.length e1) (.slice d2 y.thens.length e2) (.slice d3 y.elses.length e3)).toArray a n c L))
  case first =>
   have C0q : Hid (Blk V1.drew b 44 (cmc y (.slice d1 y.ifs.length e1) (.slice d2 y.thens.length e2) (.slice d3 y.elses.length e3)).toArray ∧ Step [] [] V1 V1.drew) := Lib.hid ⟨H2.out.1.drew, (Step.refl [] V1).drew⟩
   refine wp_region_held_drew (S := fun V => Hid (Blk V b 44 (cmc y (.slice d1 y.ifs.length e1) (.slice d2 y.thens.length e2) (.slice d3 y.elses.length e3)).toArray)) (by kernel_rfl) (Lib.hid C0q.out.1) (fun hHeld => ?_)
   refine wpAnyH_take (i := 0) (v := ?_) rfl (by kernel_rfl) (by kernel_rfl) (by kernel_rfl) (fun _ _ _ h => h) (Or.inl ⟨by rfl, ?_⟩) hHeld ?_
   rotate_left
   ·intro w hSw1
    try dsimp only at hSw1
    go_simp
    try (with_reducible rfl)
   try simp only [Act.put, LsA, LsB, LsC, LsD, LsE, LsF]
   refine wpAnyH_take (i := 1) (v := ?_) rfl (by kernel_rfl) (by kernel_rfl) (by kernel_rfl) (fun _ _ _ h => h) (Or.inl ⟨by rfl, ?_⟩) hHeld ?_
   rotate_left
   ·intro w hSw1
    have tc := hSw1.out.cell
    have t0 := tc 0
    have t1 := tc 1
    have t2 := tc 2
    have t3 := tc 3
    clear tc
    simp only [cmc, List.getElem?_toArray, List.getElem?_cons_zero, List.getElem?_cons_succ] at t0 t1 t2 t3
    have tl := hSw1.out.lt
    go_simp
    try (with_reducible rfl)
   try simp only [Act.put, LsA, LsB, LsC, LsD, LsE, LsF]
   refine wpAnyH_take (i := 3) (v := ?_) rfl (by kernel_rfl) (by kernel_rfl) (by kernel_rfl) (fun _ _ _ h => h) (Or.inl ⟨by rfl, ?_⟩) hHeld ?_
   rotate_left
   ·intro w hSw1
    try dsimp only at hSw1
    go_simp
    try (with_reducible rfl)
   try simp only [Act.put, LsA, LsB, LsC, LsD, LsE, LsF]
   refine wpAnyH_take (i := 4) (v := ?_) rfl (by kernel_rfl) (by kernel_rfl) (by kernel_rfl) (fun _ _ _ h => h) (Or.inl ⟨by rfl, ?_⟩) hHeld ?_
   rotate_left
   ·intro w hSw1
    have tc := hSw1.out.cell
    have t0 := tc 0
    have t1 := tc 1
    have t2 := tc 2
    have t3 := tc 3
    clear tc
    simp only [cmc, List.getElem?_toArray, List.getElem?_cons_zero, List.getElem?_cons_succ] at t0 t1 t2 t3
    have tl := hSw1.out.lt
    go_simp
    try (with_reducible rfl)
   try simp only [Act.put, LsA, LsB, LsC, LsD, LsE, LsF]
   refine wpAnyH_take (i := 6) (v := ?_) rfl (by kernel_rfl) (by kernel_rfl) (by kernel_rfl) (fun _ _ _ h => h) (Or.inl ⟨by rfl, ?_⟩) hHeld ?_
   rotate_left
   ·intro w hSw1
    try dsimp only at hSw1
    go_simp
    try (with_reducible rfl)
   try simp only [Act.put, LsA, LsB, LsC, LsD, LsE, LsF]
   refine wpAnyH_take (i := 7) (v := ?_) rfl (by kernel_rfl) (by kernel_rfl) (by kernel_rfl) (fun _ _ _ h => h) (Or.inl ⟨by rfl, ?_⟩) hHeld ?_
   rotate_left
   ·intro w hSw1
    have tc := hSw1.out.cell
    have t0 := tc 0
    have t1 := tc 1
    have t2 := tc 2
    have t3 := tc 3
    clear tc
    simp only [cmc, List.getElem?_toArray, List.getElem?_cons_zero, List.getElem?_cons_succ] at t0 t1 t2 t3
    have tl := hSw1.out.lt
    go_simp
    try (with_reducible rfl)
   try simp only [Act.put, LsA, LsB, LsC, LsD, LsE, LsF]
   refine wpAnyH_take (i := 9) (v := ?_) rfl (by kernel_rfl) (by kernel_rfl) (by kernel_rfl) (fun _ _ _ h => h) (Or.inl ⟨by rfl, ?_⟩) hHeld ?_
   rotate_left
   ·intro w hSw1
    try dsimp only at hSw1
    go_simp
    try (with_reducible rfl)
   try simp only [Act.put, LsA, LsB, LsC, LsD, LsE, LsF]
   refine wpAnyH_take (i := 10) (v := ?_) rfl (by kernel_rfl) (by kernel_rfl) (by kernel_rfl) (fun _ _ _ h => h) (Or.inl ⟨by rfl, ?_⟩) hHeld ?_
   rotate_left
   ·intro w hSw1
    have tc := hSw1.out.cell
    have t0 := tc 0
    have t1 := tc 1
    have t2 := tc 2
    have t3 := tc 3
    clear tc
    simp only [cmc, List.getElem?_toArray, List.getElem?_cons_zero, List.getElem?_cons_succ] at t0 t1 t2 t3
    have tl := hSw1.out.lt
    go_simp
    try (with_reducible rfl)
   try simp only [Act.put, LsA, LsB, LsC, LsD, LsE, LsF]
   refine wpAnyH_ready (rs := [2]) (by kernel_rfl) (by simp) ?_
   refine AllReadyH.cons rfl (fun K hK => ?_) AllReadyH.nil
   go_simp
   refine (rnm_any y.kind _).mono ?_; rintro e X1q ⟨rfl, kk⟩; have C1 : Hid (Blk X1q b 44 (cmc y (.slice d1 y.ifs.length e1) (.slice d2 y.thens.length e2) (.slice d3 y.elses.length e3)).toArray ∧ Step [] [] V1 X1q) := Lib.hid ⟨C0q.out.1.step kk (by simp), C0q.out.2.trans kk⟩; clear kk
   go_wp2_with fail
   refine hK.out _ _ (Lib.hid C1.out.1) (fun hHeld2 => ?_)
   clear hK K hHeld
   try simp only [Act.put, LsA, LsB, LsC, LsD, LsE, LsF]
   refine wpAnyH_ready (rs := [5]) (by kernel_rfl) (by simp) ?_
   refine AllReadyH.cons rfl (fun K hK => ?_) AllReadyH.nil
   go_simp
   refine (rnm_any y.client _).mono ?_; rintro e X2q ⟨rfl, kk⟩; have C2 : Hid (Blk X2q b 44 (cmc y (.slice d1 y.ifs.length e1) (.slice d2 y.thens.length e2) (.slice d3 y.elses.length e3)).toArray ∧ Step [] [] V1 X2q) := Lib.hid ⟨C1.out.1.step kk (by simp), C1.out.2.trans kk⟩; clear kk
   go_wp2_with fail
   refine hK.out _ _ (Lib.hid C2.out.1) (fun hHeld3 => ?_)
   clear hK K hHeld2
   try simp only [Act.put, LsA, LsB, LsC, LsD, LsE, LsF]
   refine wpAnyH_ready (rs := [8]) (by kernel_rfl) (by simp) ?_
   refine AllReadyH.cons rfl (fun K hK => ?_) AllReadyH.nil
   go_simp
   refine (rnm_any y.seq _).mono ?_; rintro e X3q ⟨rfl, kk⟩; have C3 : Hid (Blk X3q b 44 (cmc y (.slice d1 y.ifs.length e1) (.slice d2 y.thens.length e2) (.slice d3 y.elses.length e3)).toArray ∧ Step [] [] V1 X3q) := Lib.hid ⟨C2.out.1.step kk (by simp), C2.out.2.trans kk⟩; clear kk
   go_wp2_with fail
   refine hK.out _ _ (Lib.hid C3.out.1) (fun hHeld4 => ?_)
   clear hK K hHeld3
   try simp only [Act.put, LsA, LsB, LsC, LsD, LsE, LsF]
   refine wpAnyH_ready (rs := [11]) (by kernel_rfl) (by simp) ?_
   refine AllReadyH.cons rfl (fun K hK => ?_) AllReadyH.nil
   go_simp
   refine (rtx_any y.token _).mono ?_; rintro e X4q ⟨rfl, kk⟩; have C4 : Hid (Blk X4q b 44 (cmc y (.slice d1 y.ifs.length e1) (.slice d2 y.thens.length e2) (.slice d3 y.elses.length e3)).toArray ∧ Step [] [] V1 X4q) := Lib.hid ⟨C3.out.1.step kk (by simp), C3.out.2.trans kk⟩; clear kk
   go_wp2_with fail
   refine hK.out _ _ (Lib.hid C4.out.1) (fun hHeld5 => ?_)
   clear hK K hHeld4
   try simp only [Act.put, LsA, LsB, LsC, LsD, LsE, LsF]
   refine wpAnyH_ready (rs := [12]) (by kernel_rfl) (by simp) ?_
   refine AllReadyH.cons rfl (fun K hK => ?_) AllReadyH.nil
   go_simp; go_wp2_with fail; refine letterQ (K := K) ?_; intro U hU; have E0 : Hid (Ib V1 U b 44 (cmc y (.slice d1 y.ifs.length e1) (.slice d2 y.thens.length e2) (.slice d3 y.elses.length e3)).toArray (some ⟨X4q.heap.size, 0, none⟩) 4 4 [nI y.kind, nI y.client, nI y.seq, tI y.token]) := Lib.hid (by rw [hU]; exact Ib.fresh C4.out.1 C4.out.2 [nI y.kind, nI y.client, nI y.seq, tI y.token] (by simp)); clear hU
   refine hK.out _ _ (Lib.hid E0.out.blk) (fun hHeld6 => ?_)
   clear hK K hHeld5
   try simp only [Act.put, LsA, LsB, LsC, LsD, LsE, LsF]
   refine wpAnyH_take (i := 13) (v := ?_) rfl (by kernel_rfl) (by kernel_rfl) (by kernel_rfl) (fun _ _ _ h => h) (Or.inl ⟨by rfl, ?_⟩) hHeld6 ?_
   rotate_left
   ·intro w hSw1
    try dsimp only at hSw1
    go_simp
    try (with_reducible rfl)
   try simp only [Act.put, LsA, LsB, LsC, LsD, LsE, LsF]
   refine wpAnyH_done (by kernel_rfl) ?_ _
   go_wp2_with fail
   go_meet
   exact ⟨_, 4, 4, [nI y.kind, nI y.client, nI y.seq, tI y.token], rfl, by omega, Lib.hid rfl, E0⟩
  case rest =>
   rename World => V0q
   obtain ⟨a0q, n0q, c0q, L0q, rfl, hn0, HE0, E0⟩ := hcut
   rename ∀ (a : Act) (w : World), Code.wp _ _ _ a w → _ => hK
   refine hK _ _ ?_
   exact rby0 H2 HK HBY HLY HID hn0 HE0 E0
end Go.Proofs.Ytjfaplmojpldhaa
