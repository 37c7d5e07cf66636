/-
 DecodeAnswer: the answer of bytes. Condition: at most 2^40 bytes.
-/
import Derived.Test.YtjfaplmojpldhaaZAnsK
import Derived.Deep.DeepCutAuto
import Derived.Deep.CutBlock
namespace Go.Proofs.Ytjfaplmojpldhaa
open Go.RowKit
set_option linter.unusedSimpArgs false
set_option linter.unusedVariables false
set_option maxRecDepth 100000

abbrev anZ7 : Array Value := #[.int .i64 0, .int .i64 0, .int .i64 0, .int .i64 0, .bool false, .slice none 0 0, .string ⟨#[]⟩]
theorem anZ7_one : anZ7.all (·.oneCell') = true := by simp [Value.oneCell']
theorem anc_one (x : An) (s : Value) (h : s.oneCell' = true) : (anc x s).toArray.all (·.oneCell') = true := by
 simp [anc, Value.oneCell']
 exact h
theorem Try.sAns : StructOf Try.prog 54 7 := ⟨by kernel_rfl, _, Try.underlying54⟩
def DecAP (s : List UInt8) (w : World) (e : Ending) (w' : World) : Prop :=
 Step [] [] w w' ∧ ((∃ x m a c, decA s = some x ∧ e = .returned (.tuple #[anV x (.slice a m.length c), .int .i64 0]) ∧ m.map (·.o) = x.outs ∧ RdO w' a m ∧ FreshO w a m) ∨ (decA s = none ∧ e = .returned (.tuple #[.agg anZ7, .int .i64 3])))
section
variable {w0 w w' : World} {p : Nat} {st : RS} {K : List (Nat × TypeId × Array Value)} {m : List Om} {oa : Option Addr} {oc : Nat} {l : List Pr} {pa : Option Addr} {pc : Nat}
theorem qd_num (h : Qx 124 w0 w p st K m oa oc l pa pc) : Calls Try.prog 66 #[.pointer (some ⟨p, 0, none⟩)] w fun e w' => e = .returned (.int .i64 (rnum st).1) ∧ Qx 124 w0 w' p (rnum st).2 K m oa oc l pa pc := by
 refine (rnum_any p st w h.rdr (by have := h.len; omega)).mono ?_
 rintro e w' ⟨he, g, k⟩
 exact ⟨he, h.read g k (upto_len st _)⟩
theorem qd_upto (h : Qx 124 w0 w p st K m oa oc l pa pc) (n : Int) : Calls Try.prog 33 #[.pointer (some ⟨p, 0, none⟩), .int .i64 n] w fun e w' => e = .returned (.int .i64 (upto st n).1) ∧ Qx 124 w0 w' p (upto st n).2 K m oa oc l pa pc := by
 refine (upto_any p st n w h.rdr (by have := h.len; omega)).mono ?_
 rintro e w' ⟨he, g, k⟩
 exact ⟨he, h.read g k (upto_len st _)⟩
theorem qd_text (h : Qx 124 w0 w p st K m oa oc l pa pc) (n : Int) : Calls Try.prog 69 #[.pointer (some ⟨p, 0, none⟩), .int .i64 n] w fun e w' => e = .returned (Str (rtext st n).1) ∧ Qx 124 w0 w' p (rtext st n).2 K m oa oc l pa pc := by
 refine (rtext_any p st n w h.rdr (by have := h.len; omega)).mono ?_
 rintro e w' ⟨he, g, k⟩
 exact ⟨he, h.read g k (rtext_len3 st _)⟩
theorem qd_flag (h : Qx 124 w0 w p st K m oa oc l pa pc) : Calls Try.prog 67 #[.pointer (some ⟨p, 0, none⟩)] w fun e w' => e = .returned (.bool (rflag st).1) ∧ Qx 124 w0 w' p (rflag st).2 K m oa oc l pa pc := by
 refine (rflag_any p st w h.rdr (by have := h.len; omega)).mono ?_
 rintro e w' ⟨he, g, k⟩
 exact ⟨he, h.read g k (upto_len st _)⟩
end
def dright : Nat → Code → Code
 | 0, c => c
 | n + 1, .seq _ b => dright n b
 | _, c => c
section
variable {u0 u1 u2 u3 u4 u5 u6 u7 u8 u9 u10 u11 u12 u13 u14 u15 u16 u17 u18 u19 u20 u21 u22 u23 u24 u25 u26 u27 u28 u29 u30 u31 u32 u33 u34 u35 u36 u37 u38 u39 u40 u41 u42 u43 u44 u45 u46 u47 u48 u49 u50 u51 u52 u53 u54 u55 u56 u57 u58 u59 u60 u61 u62 u63 u64 u65 u66 u67 u68 u69 u70 u71 u72 u73 u74 u75 u76 u77 u78 u79 u80 u81 u82 u83 u84 u85 u86 u87 u88 u89 u90 : Value}
set_option maxHeartbeats 16000000 in
theorem ad5 {s : List UInt8} {w V : World} {p ab rb : Nat} {c0 q0 e0 r0 : Int} {y0 : Bool} {st sf : RS} {x : An} {m : List Om} {oa : Option Addr} {oc : Nat} {tk : List UInt8} (HX : Hid (⟨c0, q0, e0, r0, y0, x.outs, tk⟩ = x ∧ readA stopP 2097152 ⟨s, false⟩ = (x, sf))) (HO : Hid (m.map (·.o) = x.outs)) (H : Hid (Qx 124 w V p sf ((ab, 54, (anc ⟨c0, q0, e0, r0, y0, x.outs, tk⟩ (.slice oa m.length oc)).toArray) :: (rb, 54, anZ7) :: []) m oa oc [] none 0)) :
  Code.wp Try.prog (dright 5 (Try.f40.body.getD .skip)) (bodyPost Try.prog Try.f40 (DecAP s w)) { tmps := #[Str s, u1, .pointer (some ⟨rb, 0, none⟩), u3, .pointer (some ⟨p, 0, none⟩), .pointer (some ⟨ab, 0, none⟩), u6, u7, u8, u9, u10, u11, u12, u13, u14, u15, u16, u17, u18, u19, u20, u21, u22, u23, u24, u25, u26, u27, u28, u29, u30, u31, u32, u33, u34, u35, u36, u37, u38, u39, u40, u41, u42, u43, u44, u45, u46, u47, u48, u49, u50, u51, u52, u53, u54, u55, u56, u57, u58, u59, u60, u61, u62, u63, u64, u65, u66, u67, u68, u69, u70, u71, u72, u73, u74, u75, u76, u77, u78, u79, u80, u81, u82, u83, u84, u85, u86, u87, u88, u89, u90], defers := [] } V := by
 conv => arg 2; whnf
 dsimp only
 have H1 : Hid (Qx 124 w V p sf ((ab, 54, (anc x (.slice oa m.length oc)).toArray) :: (rb, 54, anZ7) :: []) m oa oc [] none 0) := Lib.hid (by have h := H.out; rw [← HX.out.1]; exact h)
 clear H
 have HRB := Lib.hid (H1.out.blk _ (List.mem_cons_of_mem _ (List.mem_cons_self ..))).2.2
 go_wp2_with fail
 refine (end_any p sf V H1.out.rdr).mono ?_
 rintro e W9 ⟨rfl, rfl⟩
 by_cases hz : rend sf = 0
 ·have hzb : (rend sf != 0) = false := by simp [hz]
  have HZ := Lib.hid hz
  clear hz
  have fc := (H1.out.at (List.mem_cons_self ..)).cell
  have f0 := fc 0
  have f1 := fc 1
  clear fc
  simp only [anc, List.getElem?_toArray, List.getElem?_cons_zero, List.getElem?_cons_succ] at f0 f1
  have fl := (H1.out.at (List.mem_cons_self ..)).lt
  go_wp2_with fail
  refine (ids_any x.client x.seq _).mono ?_
  rintro e W9 ⟨rfl, rfl⟩
  clear f0 f1 fl
  cases hid : okIds x.client x.seq with
  | false =>
   have HN : Hid (decA s = none) := Lib.hid (by unfold decA; rw [show readA stopP 2097152 ⟨s, false⟩ = (x, sf) from HX.out.2, hid]; simp)
   clear hid
   go_wp2_with (refine wpList_storeRow (T := 54) (b := rb) (T' := 54) (cs := anZ7) (vs := anZ7) rfl (.tmp 2) (.tmp 89) rfl rfl rfl Try.sAns (H1.out.at (List.mem_cons_of_mem _ (List.mem_cons_self ..))) rfl anZ7_one ?_; intro U ub uk)
   exact bodyPost_ret (res_row2 (T := 54) (cs := anZ7) (p := 2) (u := 3) rfl _ rfl Try.sAns ub) rfl ⟨H1.out.out.own uk HRB.out, .inr ⟨HN.out, rfl⟩⟩
  | true =>
   by_cases hl : (2097152 : Int) < s.length
   ·have hld : decide ((2097152 : Int) < s.length) = true := decide_eq_true hl
    have HN : Hid (decA s = none) := Lib.hid (by unfold decA; rw [if_pos (by omega)])
    clear hl hid
    go_wp2_with (refine wpList_storeRow (T := 54) (b := rb) (T' := 54) (cs := anZ7) (vs := anZ7) rfl (.tmp 2) (.tmp 89) rfl rfl rfl Try.sAns (H1.out.at (List.mem_cons_of_mem _ (List.mem_cons_self ..))) rfl anZ7_one ?_; intro U ub uk)
    exact bodyPost_ret (res_row2 (T := 54) (cs := anZ7) (p := 2) (u := 3) rfl _ rfl Try.sAns ub) rfl ⟨H1.out.out.own uk HRB.out, .inr ⟨HN.out, rfl⟩⟩
   ·have hld : decide ((2097152 : Int) < s.length) = false := decide_eq_false hl
    have HN : Hid (decA s = some x) := Lib.hid (by unfold decA; rw [if_neg (by omega), show readA stopP 2097152 ⟨s, false⟩ = (x, sf) from HX.out.2, if_pos ⟨HZ.out, hid⟩])
    clear hl hid
    go_wp2_with (first | (refine wpList_loadRow (T := 54) (b := ab) (T' := 54) (cs := (anc x (.slice oa m.length oc)).toArray) rfl (.tmp 5) rfl rfl Try.sAns (H1.out.at (List.mem_cons_self ..)) ?_) | (refine wpList_storeRow (T := 54) (b := rb) (T' := 54) (cs := anZ7) (vs := (anc x (.slice oa m.length oc)).toArray) rfl (.tmp 2) (.tmp 90) rfl rfl rfl Try.sAns (H1.out.at (List.mem_cons_of_mem _ (List.mem_cons_self ..))) rfl (anc_one _ _ rfl) ?_; intro U ub uk))
    exact bodyPost_ret (res_row2 (T := 54) (cs := (anc x (.slice oa m.length oc)).toArray) (p := 2) (u := 3) rfl _ rfl Try.sAns ub) rfl ⟨H1.out.out.own uk HRB.out, .inl ⟨x, m, oa, oc, HN.out, rfl, HO.out, H1.out.own (List.mem_cons_of_mem _ (List.mem_cons_self ..)) uk, H1.out.freshO⟩⟩
 ·have hzb : (rend sf != 0) = true := by simp [hz]
  have HN : Hid (decA s = none) := Lib.hid (by unfold decA; rw [show readA stopP 2097152 ⟨s, false⟩ = (x, sf) from HX.out.2]; simp [hz])
  clear hz
  go_wp2_with (refine wpList_storeRow (T := 54) (b := rb) (T' := 54) (cs := anZ7) (vs := anZ7) rfl (.tmp 2) (.tmp 89) rfl rfl rfl Try.sAns (H1.out.at (List.mem_cons_of_mem _ (List.mem_cons_self ..))) rfl anZ7_one ?_; intro U ub uk)
  exact bodyPost_ret (res_row2 (T := 54) (cs := anZ7) (p := 2) (u := 3) rfl _ rfl Try.sAns ub) rfl ⟨H1.out.out.own uk HRB.out, .inr ⟨HN.out, rfl⟩⟩
set_option maxHeartbeats 16000000 in
theorem ad4 {s : List UInt8} {w V : World} {p ab rb : Nat} {c0 q0 e0 r0 : Int} {y0 : Bool} {st sf : RS} {x : An} {m : List Om} {oa : Option Addr} {oc : Nat} (HR : Hid (readA stopP 2097152 ⟨s, false⟩ = (x, sf))) (HF : Hid (m.map (·.o) = x.outs ∧ (⟨c0, q0, e0, r0, y0, m.map (·.o), (rtext st 2097152).1⟩, (rtext st 2097152).2) = (x, sf))) (HO : Hid (m.map (·.o) = x.outs)) (H : Hid (Qx 124 w V p st ((ab, 54, (anc ⟨c0, q0, e0, r0, y0, [], []⟩ (.slice oa m.length oc)).toArray) :: (rb, 54, anZ7) :: []) m oa oc [] none 0)) :
  Code.wp Try.prog (dright 4 (Try.f40.body.getD .skip)) (bodyPost Try.prog Try.f40 (DecAP s w)) { tmps := #[Str s, u1, .pointer (some ⟨rb, 0, none⟩), u3, .pointer (some ⟨p, 0, none⟩), .pointer (some ⟨ab, 0, none⟩), u6, u7, u8, u9, u10, u11, u12, u13, u14, u15, u16, u17, u18, u19, u20, u21, u22, u23, u24, u25, u26, u27, u28, u29, u30, u31, u32, u33, u34, u35, u36, u37, u38, u39, u40, u41, u42, u43, u44, u45, u46, u47, u48, u49, u50, u51, u52, u53, u54, u55, u56, u57, u58, u59, u60, u61, u62, u63, u64, u65, u66, u67, u68, u69, u70, u71, u72, u73, u74, u75, u76, u77, u78, u79, u80, u81, u82, u83, u84, u85, u86, u87, u88, u89, u90], defers := [] } V := by
 conv => arg 2; whnf
 dsimp only
 go_upto_region 13 with fail
 have HXT : Hid (⟨c0, q0, e0, r0, y0, x.outs, (rtext st 2097152).1⟩ = x ∧ (rtext st 2097152).2 = sf) := Lib.hid (by have h := HF.out.2; rw [HF.out.1] at h; obtain ⟨h1, h2⟩ := Prod.mk.inj h; exact ⟨by rw [← h1], h2⟩)
 go_cut [] (fun wx => Hid (Qx 124 w wx p (rtext st 2097152).2 ((ab, 54, (anc ⟨c0, q0, e0, r0, y0, x.outs, (rtext st 2097152).1⟩ (.slice oa m.length oc)).toArray) :: (rb, 54, anZ7) :: []) m oa oc [] none 0))
 case first =>
  go_wp2_with fail
  refine (qd_text H.out 2097152).mono ?_
  rintro e X1 ⟨rfl, t⟩
  have H1 := Lib.hid t
  clear t
  have fc := (H1.out.at (List.mem_cons_self ..)).cell
  have f6 := fc 6
  clear fc
  simp only [anc, List.getElem?_toArray, List.getElem?_cons_zero, List.getElem?_cons_succ] at f6
  have fl := (H1.out.at (List.mem_cons_self ..)).lt
  have ff6 := (H1.out.at (List.mem_cons_self ..)).frozen 6
  go_wp2_with fail
  go_meet
  exact Lib.hid (Qx.put (K1 := []) H1.out ((Step.refl [ab] X1).setCell (.inl (by simp)) _) (by have hq := (H1.out.at (List.mem_cons_self ..)).set 6 (Str (rtext st 2097152).1); simpa [anc] using hq))
 case rest =>
  rename World => Y
  have HY := hcut
  rw [HXT.out.2] at HY
  rename ∀ (a : Act) (w : World), Code.wp _ _ _ a w → _ => hK
  refine hK _ _ ?_
  exact ad5 (st := sf) (Lib.hid ⟨HXT.out.1, HR.out⟩) HO HY
set_option maxHeartbeats 16000000 in
theorem ad3 {s : List UInt8} {w V : World} {p ab rb : Nat} {c0 q0 e0 r0 : Int} {y0 : Bool} {st sf : RS} {x : An}  (HR : Hid (readA stopP 2097152 ⟨s, false⟩ = (x, sf))) (HF : Hid (tailA stopP 2097152 c0 q0 e0 r0 y0 st = (x, sf))) (H : Hid (Qx 124 w V p st ((ab, 54, (anc ⟨c0, q0, e0, r0, y0, [], []⟩ (.slice none 0 0)).toArray) :: (rb, 54, anZ7) :: []) [] none 0 [] none 0)) :
  Code.wp Try.prog (dright 3 (Try.f40.body.getD .skip)) (bodyPost Try.prog Try.f40 (DecAP s w)) { tmps := #[Str s, u1, .pointer (some ⟨rb, 0, none⟩), u3, .pointer (some ⟨p, 0, none⟩), .pointer (some ⟨ab, 0, none⟩), u6, u7, u8, u9, u10, u11, u12, u13, u14, u15, u16, u17, u18, u19, u20, u21, u22, u23, u24, u25, u26, u27, u28, u29, u30, u31, u32, u33, u34, u35, u36, u37, u38, u39, u40, u41, u42, u43, u44, u45, u46, u47, u48, u49, u50, u51, u52, u53, u54, u55, u56, u57, u58, u59, u60, u61, u62, u63, u64, u65, u66, u67, u68, u69, u70, u71, u72, u73, u74, u75, u76, u77, u78, u79, u80, u81, u82, u83, u84, u85, u86, u87, u88, u89, u90], defers := [] } V := by
 conv => arg 2; whnf
 dsimp only
 obtain ⟨i0, hi, hz0, hz1, hz2⟩ := info_parts Try.info_pair
 have HI := Lib.hid (And.intro hi (And.intro hz0 (And.intro hz1 hz2)))
 clear hi hz0 hz1 hz2
 obtain ⟨i1, hi, hz0, hz1, hz2⟩ := info_parts Try.info_out
 have HI1 := Lib.hid (And.intro hi (And.intro hz0 (And.intro hz1 hz2)))
 clear hi hz0 hz1 hz2
 go_wp2_with fail
 refine (qd_num H.out).mono ?_
 rintro e X2 ⟨rfl, t⟩
 have H2 := Lib.hid t
 clear t
 have hn0 := upto_nat st 4611686018427387903
 have hn1 := uptoQ_most st 4611686018427387903 (by omega)
 have hs2 := upto_len st 4611686018427387903
 obtain ⟨N, hN⟩ : ∃ N : Nat, N = (rnum st).1.toNat := ⟨_, rfl⟩
 have hN2 : (rnum st).1 = (N : Int) := by rw [hN]; exact (Int.toNat_of_nonneg hn0).symm
 have hN8 : N ≤ 4611686018427387903 := by have e : (rnum st).1 ≤ 4611686018427387903 := hn1; omega
 obtain ⟨s0, hs0⟩ : ∃ q, q = (rnum st).2 := ⟨_, rfl⟩
 have hs3 : s0.s.length ≤ st.s.length := by rw [hs0]; exact hs2
 rw [← hs0] at H2
 obtain ⟨B, hB⟩ : ∃ B, B = s0.s.length := ⟨_, rfl⟩
 have hB8 : B ≤ 1099511627776 := by have := H.out.len; omega
 obtain ⟨R, hR⟩ : ∃ R, R = rdOts stopP 2097152 st := ⟨_, rfl⟩
 have HRR := Lib.hid hR
 have HC : Hid (otsR stopP 2097152 N [] s0 = R ∧ s0.s.length ≤ B) := Lib.hid ⟨by rw [hR, rdOts, hN, hs0], by omega⟩
 rw [hN2]
 clear hN hN2 hR hn0 hn1 hB hs2 hs3 hs0 H
 go_upto_block 0 with fail
 go_cut [] (fun wx => ∃ (m : List Om) (oa : Option Addr) (oc : Nat), Hid (Qx 124 w wx p R.2 ((ab, 54, (anc ⟨c0, q0, e0, r0, y0, [], []⟩ (.slice oa m.length oc)).toArray) :: (rb, 54, anZ7) :: []) m oa oc [] none 0 ∧ m.map (·.o) = R.1))
 case first =>
  go_wp2_with fail
  go_loopw [6] (fun i W => ∃ (r : Nat) (m : List Om) (oa : Option Addr) (oc : Nat) (st1 : RS), r ≤ N ∧ m.length ≤ B + 1 ∧ (0 < st1.s.length → m.length + st1.s.length ≤ B) ∧ i = .int .i64 r ∧ Hid (Qx 124 w W p st1 ((ab, 54, (anc ⟨c0, q0, e0, r0, y0, [], []⟩ (.slice oa m.length oc)).toArray) :: (rb, 54, anZ7) :: []) m oa oc [] none 0 ∧ otsR stopP 2097152 r (m.map (·.o)) st1 = R)) (fun i _ => (intOf i).toNat)
  case atStart => exact ⟨N, [], none, 0, _, by omega, by simp, by simp; intro _; exact HC.out.2, rfl, H2.out, HC.out.1⟩
  case round =>
   clear HC H2
   rename World => W
   obtain ⟨r, m, oa, oc, st1, hr, hl1, hl2, rfl, HW⟩ := hrel
   cases r with
   | zero =>
    have hnl : ¬ (0 : Int) < ((0 : Nat) : Int) := by omega
    have GE : Hid (Qx 124 w W p R.2 ((ab, 54, (anc ⟨c0, q0, e0, r0, y0, [], []⟩ (.slice oa m.length oc)).toArray) :: (rb, 54, anZ7) :: []) m oa oc [] none 0 ∧ m.map (·.o) = R.1) := by
     have e0 : (m.map (·.o), st1) = R := by have := HW.out.2; rwa [otsR] at this
     rw [← e0]
     exact ⟨HW.out.1, rfl⟩
    clear HW
    go_wp2_with fail
    go_meet
    exact ⟨m, oa, oc, GE⟩
   | succ r =>
    have hlt : (0 : Int) < ((r + 1 : Nat) : Int) := by omega
    go_wp2_with fail
    refine (left_any p st1 W HW.out.1.rdr).mono ?_
    rintro e W9 ⟨rfl, rfl⟩
    by_cases hz : st1.s.length = 0
    ·have hzd : decide (0 < st1.s.length) = false := decide_eq_false (by omega)
     have HZ := Lib.hid hz
     clear hz
     have GE : Hid (Qx 124 w W p R.2 ((ab, 54, (anc ⟨c0, q0, e0, r0, y0, [], []⟩ (.slice oa m.length oc)).toArray) :: (rb, 54, anZ7) :: []) m oa oc [] none 0 ∧ m.map (·.o) = R.1) := by
      have e0 : (m.map (·.o), st1) = R := by have := HW.out.2; rwa [otsR, if_pos (stopP_yes HZ.out)] at this
      rw [← e0]
      exact ⟨HW.out.1, rfl⟩
     clear HW
     go_wp2_with fail
     go_meet
     exact ⟨m, oa, oc, GE⟩
    ·have hzd : decide (0 < st1.s.length) = true := decide_eq_true (by omega)
     have hl3 := hl2 (by omega)
     have HSt : Hid (otsR stopP 2097152 r (m.map (·.o) ++ [(otR stopP 2097152 st1).1]) (otR stopP 2097152 st1).2 = R) := Lib.hid (by have := HW.out.2; rwa [otsR, if_neg (stopP_no hz)] at this)
     have HLS : Hid ((otR stopP 2097152 st1).2 = rfail ∨ (otR stopP 2097152 st1).2.s.length < st1.s.length) := Lib.hid (otR_less stopP 2097152 rfl st1)
     clear hz hl2
     go_wp2_with fail
     clear hzd
     obtain ⟨ob, hob⟩ : ∃ b, b = W.heap.size := ⟨_, rfl⟩
     obtain ⟨Y0, hY0⟩ : ∃ Y, Y = W.alloc (.cells #[.slice none 0 0, .bool false, .int .i64 0] 113) := ⟨_, rfl⟩
     have B0 : Hid (Qx 124 w Y0 p st1 ((ob, 113, #[.slice none 0 0, .bool false, .int .i64 0]) :: (ab, 54, (anc ⟨c0, q0, e0, r0, y0, [], []⟩ (.slice oa m.length oc)).toArray) :: (rb, 54, anZ7) :: []) m oa oc [] none 0) := Lib.hid (by rw [hY0, hob]; exact HW.out.1.push _ _)
     rw [← hY0]
     try rw [← hob]
     clear hY0 hob HW
     refine (qd_num B0.out).mono ?_
     rintro e X3 ⟨rfl, t⟩
     have H3 := Lib.hid t
     clear t
     have hn0 := upto_nat st1 4611686018427387903
     have hn1 := uptoQ_most st1 4611686018427387903 (by omega)
     have hs2 := upto_len st1 4611686018427387903
     obtain ⟨N2, hN⟩ : ∃ N : Nat, N = (rnum st1).1.toNat := ⟨_, rfl⟩
     have hN2 : (rnum st1).1 = (N2 : Int) := by rw [hN]; exact (Int.toNat_of_nonneg hn0).symm
     have hN9 : N2 ≤ 4611686018427387903 := by have e : (rnum st1).1 ≤ 4611686018427387903 := hn1; omega
     obtain ⟨s2, hs0⟩ : ∃ q, q = (rnum st1).2 := ⟨_, rfl⟩
     have hs3 : s2.s.length ≤ st1.s.length := by rw [hs0]; exact hs2
     rw [← hs0] at H3
     obtain ⟨C, hC⟩ : ∃ C, C = s2.s.length := ⟨_, rfl⟩
     have hC8 : C ≤ 1099511627776 := by have := B0.out.len; omega
     obtain ⟨R2, hR⟩ : ∃ R, R = rdPrs stopP 2097152 st1 := ⟨_, rfl⟩
     have HR2 := Lib.hid hR
     have HC : Hid (prsR stopP 2097152 N2 [] s2 = R2 ∧ s2.s.length ≤ C) := Lib.hid ⟨by rw [hR, rdPrs, hN, hs0], by omega⟩
     rw [hN2]
     clear hN hN2 hR hn0 hn1 hC hs2 hs3 hs0 B0
     go_upto_block 2 with fail
     go_cut [] (fun wx => ∃ (l : List Pr) (pa : Option Addr) (pc : Nat), Hid (Qx 124 w wx p R2.2 ((ob, 113, #[.slice pa l.length pc, .bool false, .int .i64 0]) :: (ab, 54, (anc ⟨c0, q0, e0, r0, y0, [], []⟩ (.slice oa m.length oc)).toArray) :: (rb, 54, anZ7) :: []) m oa oc l pa pc ∧ l = R2.1))
     case first =>
      go_wp2_with fail
      go_loopw [8] (fun i W => ∃ (k : Nat) (l : List Pr) (pa : Option Addr) (pc : Nat) (s3 : RS), k ≤ N2 ∧ l.length ≤ C + 1 ∧ (0 < s3.s.length → l.length + s3.s.length ≤ C) ∧ i = .int .i64 k ∧ Hid (Qx 124 w W p s3 ((ob, 113, #[.slice pa l.length pc, .bool false, .int .i64 0]) :: (ab, 54, (anc ⟨c0, q0, e0, r0, y0, [], []⟩ (.slice oa m.length oc)).toArray) :: (rb, 54, anZ7) :: []) m oa oc l pa pc ∧ prsR stopP 2097152 k l s3 = R2)) (fun i _ => (intOf i).toNat)
      case atStart => exact ⟨N2, [], none, 0, _, by omega, by simp, by simp; intro _; exact HC.out.2, rfl, H3.out, HC.out.1⟩
      case round =>
       clear HC H3
       rename World => Y
       obtain ⟨k, l, pa, pc, s3, hk, hj1, hj2, rfl, HY⟩ := hrel
       cases k with
       | zero =>
        have hnl : ¬ (0 : Int) < ((0 : Nat) : Int) := by omega
        have GE : Hid (Qx 124 w Y p R2.2 ((ob, 113, #[.slice pa l.length pc, .bool false, .int .i64 0]) :: (ab, 54, (anc ⟨c0, q0, e0, r0, y0, [], []⟩ (.slice oa m.length oc)).toArray) :: (rb, 54, anZ7) :: []) m oa oc l pa pc ∧ l = R2.1) := by
         have e0 : (l, s3) = R2 := by have := HY.out.2; rwa [prsR] at this
         rw [← e0]
         exact ⟨HY.out.1, rfl⟩
        clear HY
        go_wp2_with fail
        go_meet
        exact ⟨l, pa, pc, GE⟩
       | succ k =>
        have hlk : (0 : Int) < ((k + 1 : Nat) : Int) := by omega
        go_wp2_with fail
        refine (left_any p s3 Y HY.out.1.rdr).mono ?_
        rintro e W9 ⟨rfl, rfl⟩
        by_cases hz : s3.s.length = 0
        ·have hzd : decide (0 < s3.s.length) = false := decide_eq_false (by omega)
         have HZ := Lib.hid hz
         clear hz
         have GE : Hid (Qx 124 w Y p R2.2 ((ob, 113, #[.slice pa l.length pc, .bool false, .int .i64 0]) :: (ab, 54, (anc ⟨c0, q0, e0, r0, y0, [], []⟩ (.slice oa m.length oc)).toArray) :: (rb, 54, anZ7) :: []) m oa oc l pa pc ∧ l = R2.1) := by
          have e0 : (l, s3) = R2 := by have := HY.out.2; rwa [prsR, if_pos (stopP_yes HZ.out)] at this
          rw [← e0]
          exact ⟨HY.out.1, rfl⟩
         clear HY
         go_wp2_with fail
         go_meet
         exact ⟨l, pa, pc, GE⟩
        ·have hzd : decide (0 < s3.s.length) = true := decide_eq_true (by omega)
         have hj3 := hj2 (by omega)
         have HSp : Hid (prsR stopP 2097152 k (l ++ [(prR 2097152 s3).1]) (prR 2097152 s3).2 = R2) := Lib.hid (by have := HY.out.2; rwa [prsR, if_neg (stopP_no hz)] at this)
         have HLP : Hid ((prR 2097152 s3).2 = rfail ∨ (prR 2097152 s3).2.s.length < s3.s.length) := Lib.hid (prR_less 2097152 s3)
         clear hz hj2
         go_upto_region 10 with fail
         clear hzd
         have HD0 : Hid (Qx 124 w Y.drew p s3 ((ob, 113, #[.slice pa l.length pc, .bool false, .int .i64 0]) :: (ab, 54, (anc ⟨c0, q0, e0, r0, y0, [], []⟩ (.slice oa m.length oc)).toArray) :: (rb, 54, anZ7) :: []) m oa oc l pa pc) := Lib.hid (HY.out.1.quiet ((Step.refl [] Y).drew))
         clear HY
         refine wp_region_held_drew (S := fun V => Hid (ob < V.heap.size)) (by kernel_rfl) (Lib.hid (HD0.out.at (List.mem_cons_self ..)).lt) (fun hHeld => ?_)
         refine wpAnyH_take (i := 0) (v := ?_) rfl (by kernel_rfl) (by kernel_rfl) (by kernel_rfl) (fun _ _ _ h => h) (Or.inl ⟨by rfl, ?_⟩) hHeld ?_
         rotate_left
         ·intro w hSw1
          try dsimp only at hSw1
          go_simp
          try (with_reducible rfl)
         try simp only [Act.put, LsA, LsB, LsC, LsD, LsE, LsF]
         refine wpAnyH_take (i := 2) (v := ?_) rfl (by kernel_rfl) (by kernel_rfl) (by kernel_rfl) (fun _ _ _ h => h) (Or.inl ⟨by rfl, ?_⟩) hHeld ?_
         rotate_left
         ·intro w hSw1
          try dsimp only at hSw1
          go_simp
          try (with_reducible rfl)
         try simp only [Act.put, LsA, LsB, LsC, LsD, LsE, LsF]
         refine wpAnyH_take (i := 4) (v := ?_) rfl (by kernel_rfl) (by kernel_rfl) (by kernel_rfl) (fun _ _ _ h => h) (Or.inl ⟨by rfl, ?_⟩) hHeld ?_
         rotate_left
         ·intro w hSw1
          try dsimp only at hSw1
          go_simp
          try (with_reducible rfl)
         try simp only [Act.put, LsA, LsB, LsC, LsD, LsE, LsF]
         refine wpAnyH_take (i := 6) (v := ?_) rfl (by kernel_rfl) (by kernel_rfl) (by kernel_rfl) (fun _ _ _ h => h) (Or.inl ⟨by rfl, ?_⟩) hHeld ?_
         rotate_left
         ·intro w hSw1
          try dsimp only at hSw1
          go_simp
          try (with_reducible rfl)
         try simp only [Act.put, LsA, LsB, LsC, LsD, LsE, LsF]
         refine wpAnyH_take (i := 8) (v := ?_) rfl (by kernel_rfl) (by kernel_rfl) (by kernel_rfl) (fun _ _ _ h => h) (Or.inl ⟨by rfl, ?_⟩) hHeld ?_
         rotate_left
         ·intro w hSw1
          try dsimp only at hSw1
          go_simp
          try (with_reducible rfl)
         try simp only [Act.put, LsA, LsB, LsC, LsD, LsE, LsF]
         refine wpAnyH_ready (rs := [1, 3]) (by kernel_rfl) (by simp) ?_
         refine AllReadyH.cons rfl (fun K hK => ?_) (AllReadyH.cons rfl (fun K hK => ?_) (AllReadyH.nil))
         ·skip
          have zc := (HD0.out.at (List.mem_cons_self ..)).cell; have z0 := zc 0; clear zc; simp only [anc, List.getElem?_toArray, List.getElem?_cons_zero, List.getElem?_cons_succ] at z0; have zl := (HD0.out.at (List.mem_cons_self ..)).lt; go_simp; go_wp2_with fail; clear z0 zl
          refine hK.out _ _ (hHeld) (fun hHeld2 => ?_)
          clear hK K hHeld
          try simp only [Act.put, LsA, LsB, LsC, LsD, LsE, LsF]
          refine wpAnyH_ready (rs := [3]) (by kernel_rfl) (by simp) ?_
          refine AllReadyH.cons rfl (fun K hK => ?_) AllReadyH.nil
          go_simp
          refine (qd_text HD0.out 2097152).mono ?_; rintro e X4 ⟨rfl, t⟩; have H4 := Lib.hid t; clear t
          go_wp2_with fail
          refine hK.out _ _ (Lib.hid (H4.out.at (List.mem_cons_self ..)).lt) (fun hHeld3 => ?_)
          clear hK K hHeld2
          try simp only [Act.put, LsA, LsB, LsC, LsD, LsE, LsF]
          refine wpAnyH_ready (rs := [5]) (by kernel_rfl) (by simp) ?_
          refine AllReadyH.cons rfl (fun K hK => ?_) AllReadyH.nil
          go_simp
          refine (qd_text H4.out 2097152).mono ?_; rintro e X5 ⟨rfl, t⟩; have H5 := Lib.hid t; clear t
          go_wp2_with fail
          refine hK.out _ _ (Lib.hid (H5.out.at (List.mem_cons_self ..)).lt) (fun hHeld4 => ?_)
          clear hK K hHeld3
          try simp only [Act.put, LsA, LsB, LsC, LsD, LsE, LsF]
          refine wpAnyH_ready (rs := [7]) (by kernel_rfl) (by simp) ?_
          refine AllReadyH.cons rfl (fun K hK => ?_) AllReadyH.nil
          go_simp
          refine (qd_num H5.out).mono ?_; rintro e X6 ⟨rfl, t⟩; have H6 := Lib.hid t; clear t
          go_wp2_with fail
          refine hK.out _ _ (Lib.hid (H6.out.at (List.mem_cons_self ..)).lt) (fun hHeld5 => ?_)
          clear hK K hHeld4
          try simp only [Act.put, LsA, LsB, LsC, LsD, LsE, LsF]
          refine wpAnyH_ready (rs := [9]) (by kernel_rfl) (by simp) ?_
          refine AllReadyH.cons rfl (fun K hK => ?_) AllReadyH.nil
          go_simp
          refine (qd_num H6.out).mono ?_; rintro e X7 ⟨rfl, t⟩; have H7 := Lib.hid t; clear t
          go_wp2_with fail
          refine hK.out _ _ (Lib.hid (H7.out.at (List.mem_cons_self ..)).lt) (fun hHeld6 => ?_)
          clear hK K hHeld5
          try simp only [Act.put, LsA, LsB, LsC, LsD, LsE, LsF]
          refine wpAnyH_take (i := 10) (v := ?_) rfl (by kernel_rfl) (by kernel_rfl) (by kernel_rfl) (fun _ _ _ h => h) (Or.inl ⟨by rfl, ?_⟩) hHeld6 ?_
          rotate_left
          ·intro w hSw1
           try dsimp only at hSw1
           go_simp
           try (with_reducible rfl)
          try simp only [Act.put, LsA, LsB, LsC, LsD, LsE, LsF]
          refine wpAnyH_ready (rs := [11]) (by kernel_rfl) (by simp) ?_
          refine AllReadyH.cons rfl (fun K hK => ?_) AllReadyH.nil
          go_simp; go_wp2_with fail; refine letterQ (K := K) ?_; intro U hU; obtain ⟨eb, heb⟩ : ∃ eb, eb = X7.heap.size := ⟨_, rfl⟩; have GB : Hid (Qx 124 w U p (rnum (rnum (rtext (rtext s3 2097152).2 2097152).2).2).2 ((ob, 113, #[.slice pa l.length pc, .bool false, .int .i64 0]) :: (ab, 54, (anc ⟨c0, q0, e0, r0, y0, [], []⟩ (.slice oa m.length oc)).toArray) :: (rb, 54, anZ7) :: []) m oa oc l pa pc) := Lib.hid (by rw [hU]; exact H7.out.quiet ((Step.refl [] _).alloc _)); have B3 : Hid (Blk U eb 115 (prc (⟨(rtext s3 2097152).1, (rtext (rtext s3 2097152).2 2097152).1, (rnum (rtext (rtext s3 2097152).2 2097152).2).1, (rnum (rnum (rtext (rtext s3 2097152).2 2097152).2).2).1⟩ : Pr)).toArray) := Lib.hid (by rw [hU, heb]; exact Blk.new _ _ _); rw [← heb]; clear hU heb
          refine hK.out _ _ (Lib.hid (GB.out.at (List.mem_cons_self ..)).lt) (fun hHeld7 => ?_)
          clear hK K hHeld6
          try simp only [Act.put, LsA, LsB, LsC, LsD, LsE, LsF]
          refine wpAnyH_ready (rs := [12]) (by kernel_rfl) (by simp) ?_
          refine AllReadyH.cons rfl (fun K hK => ?_) AllReadyH.nil
          have HRW : Hid (Row U 4 pa l.length pc (prcs l)) := Lib.hid GB.out.prow; refine step_append_row rfl (.tmp 45) (.tmp 55) 111 111 rfl 115 i0 _ 4 48 Try.underlying111 HI.out.1 HI.out.2.1 HI.out.2.2.1 HI.out.2.2.2 rfl rfl HRW.out rfl (Src.rd 111 115 Try.underlying111 (rd_blk' (xs := prc (⟨(rtext s3 2097152).1, (rtext (rtext s3 2097152).2 2097152).1, (rnum (rtext (rtext s3 2097152).2 2097152).2).1, (rnum (rnum (rtext (rtext s3 2097152).2 2097152).2).2).1⟩ : Pr)) B3.out 4 1 rfl) (prc_one _)) (by unfold maxLen; omega) (by omega) (by omega) ?_; intro a9 c9 w9 hr9 st9; have G8 : Hid (Qx 124 w w9 p (rnum (rnum (rtext (rtext s3 2097152).2 2097152).2).2).2 ((ob, 113, #[.slice pa l.length pc, .bool false, .int .i64 0]) :: (ab, 54, (anc ⟨c0, q0, e0, r0, y0, [], []⟩ (.slice oa m.length oc)).toArray) :: (rb, 54, anZ7) :: []) m oa oc (l ++ [(⟨(rtext s3 2097152).1, (rtext (rtext s3 2097152).2 2097152).1, (rnum (rtext (rtext s3 2097152).2 2097152).2).1, (rnum (rnum (rtext (rtext s3 2097152).2 2097152).2).2).1⟩ : Pr)]) a9 c9) := Lib.hid (GB.out.growP st9 hr9); clear hr9 st9; have zb := G8.out.at (List.mem_cons_self ..); have zf := zb.frozen 0; have zl := zb.lt; clear zb
          refine hK.out _ _ (Lib.hid (G8.out.at (List.mem_cons_self ..)).lt) (fun hHeld8 => ?_)
          clear hK K hHeld7
          try simp only [Act.put, LsA, LsB, LsC, LsD, LsE, LsF]
          refine wpAnyH_take (i := 13) (v := ?_) rfl (by kernel_rfl) (by kernel_rfl) (by kernel_rfl) (fun _ _ _ h => h) (Or.inl ⟨by rfl, ?_⟩) hHeld8 ?_
          rotate_left
          ·intro w hSw1
           try dsimp only at hSw1
           go_simp
           try (with_reducible rfl)
          try simp only [Act.put, LsA, LsB, LsC, LsD, LsE, LsF]
          refine wpAnyH_ready (rs := [14]) (by kernel_rfl) (by simp) ?_
          refine AllReadyH.cons rfl (fun K hK => ?_) AllReadyH.nil
          have zc0 := (G8.out.at (List.mem_cons_self ..)).cell 0; simp only [List.getElem?_toArray, List.getElem?_cons_zero] at zc0; go_simp; go_wp2_with fail; clear zc0
          refine hK.out _ _ (Lib.hid (by simpa using zl)) (fun hHeld9 => ?_)
          clear hK K hHeld8
          try simp only [Act.put, LsA, LsB, LsC, LsD, LsE, LsF]
          refine wpAnyH_done (by kernel_rfl) ?_ _
          clear zf zl
          obtain ⟨U9, hU9⟩ : ∃ U9, U9 = (w9.setCell ⟨ob, 0, none⟩ (.slice a9 (l.length + 1) c9)) := ⟨_, rfl⟩
          have G9 : Hid (Qx 124 w U9 p (rnum (rnum (rtext (rtext s3 2097152).2 2097152).2).2).2 ((ob, 113, #[.slice a9 (l ++ [(⟨(rtext s3 2097152).1, (rtext (rtext s3 2097152).2 2097152).1, (rnum (rtext (rtext s3 2097152).2 2097152).2).1, (rnum (rnum (rtext (rtext s3 2097152).2 2097152).2).2).1⟩ : Pr)]).length c9, .bool false, .int .i64 0]) :: (ab, 54, (anc ⟨c0, q0, e0, r0, y0, [], []⟩ (.slice oa m.length oc)).toArray) :: (rb, 54, anZ7) :: []) m oa oc (l ++ [(⟨(rtext s3 2097152).1, (rtext (rtext s3 2097152).2 2097152).1, (rnum (rtext (rtext s3 2097152).2 2097152).2).1, (rnum (rnum (rtext (rtext s3 2097152).2 2097152).2).2).1⟩ : Pr)]) a9 c9) := Lib.hid (by rw [hU9]; have hq := Qx.put (K1 := []) G8.out ((Step.refl [ob] w9).setCell (.inl (by simp)) _) ((G8.out.at (List.mem_cons_self ..)).set 0 (.slice a9 (l.length + 1) c9)); simpa using hq)
          rw [← hU9]
          clear hU9 G8 GB B3
          go_wp2_with fail
          go_roundw
          case rel => exact ⟨k, l ++ [(⟨(rtext s3 2097152).1, (rtext (rtext s3 2097152).2 2097152).1, (rnum (rtext (rtext s3 2097152).2 2097152).2).1, (rnum (rnum (rtext (rtext s3 2097152).2 2097152).2).2).1⟩ : Pr)], a9, c9, (rnum (rnum (rtext (rtext s3 2097152).2 2097152).2).2).2, by omega, by rw [List.length_append, List.length_singleton]; omega, by intro hb; rcases HLP.out with g | g; (exfalso; have e0 : (rnum (rnum (rtext (rtext s3 2097152).2 2097152).2).2).2 = rfail := g; rw [e0] at hb; simp [rfail] at hb); (have e0 : (rnum (rnum (rtext (rtext s3 2097152).2 2097152).2).2).2.s.length < s3.s.length := g; simp; omega), by go_num, Lib.hid ⟨G9.out, HSp.out⟩⟩
          case measure => first | (simp [intOf]; done) | (simp [intOf]; omega)
         ·skip
          go_simp
          refine (qd_text HD0.out 2097152).mono ?_; rintro e X8 ⟨rfl, t⟩; have H8 := Lib.hid t; clear t
          go_wp2_with fail
          refine hK.out _ _ (Lib.hid (H8.out.at (List.mem_cons_self ..)).lt) (fun hHeld2 => ?_)
          clear hK K hHeld
          try simp only [Act.put, LsA, LsB, LsC, LsD, LsE, LsF]
          refine wpAnyH_ready (rs := [1, 5]) (by kernel_rfl) (by simp) ?_
          refine AllReadyH.cons rfl (fun K hK => ?_) (AllReadyH.cons rfl (fun K hK => ?_) (AllReadyH.nil))
          ·skip
           have zc := (H8.out.at (List.mem_cons_self ..)).cell; have z0 := zc 0; clear zc; simp only [anc, List.getElem?_toArray, List.getElem?_cons_zero, List.getElem?_cons_succ] at z0; have zl := (H8.out.at (List.mem_cons_self ..)).lt; go_simp; go_wp2_with fail; clear z0 zl
           refine hK.out _ _ (hHeld2) (fun hHeld3 => ?_)
           clear hK K hHeld2
           try simp only [Act.put, LsA, LsB, LsC, LsD, LsE, LsF]
           refine wpAnyH_ready (rs := [5]) (by kernel_rfl) (by simp) ?_
           refine AllReadyH.cons rfl (fun K hK => ?_) AllReadyH.nil
           go_simp
           refine (qd_text H8.out 2097152).mono ?_; rintro e X9 ⟨rfl, t⟩; have H9 := Lib.hid t; clear t
           go_wp2_with fail
           refine hK.out _ _ (Lib.hid (H9.out.at (List.mem_cons_self ..)).lt) (fun hHeld4 => ?_)
           clear hK K hHeld3
           try simp only [Act.put, LsA, LsB, LsC, LsD, LsE, LsF]
           refine wpAnyH_ready (rs := [7]) (by kernel_rfl) (by simp) ?_
           refine AllReadyH.cons rfl (fun K hK => ?_) AllReadyH.nil
           go_simp
           refine (qd_num H9.out).mono ?_; rintro e X10 ⟨rfl, t⟩; have H10 := Lib.hid t; clear t
           go_wp2_with fail
           refine hK.out _ _ (Lib.hid (H10.out.at (List.mem_cons_self ..)).lt) (fun hHeld5 => ?_)
           clear hK K hHeld4
           try simp only [Act.put, LsA, LsB, LsC, LsD, LsE, LsF]
           refine wpAnyH_ready (rs := [9]) (by kernel_rfl) (by simp) ?_
           refine AllReadyH.cons rfl (fun K hK => ?_) AllReadyH.nil
           go_simp
           refine (qd_num H10.out).mono ?_; rintro e X11 ⟨rfl, t⟩; have H11 := Lib.hid t; clear t
           go_wp2_with fail
           refine hK.out _ _ (Lib.hid (H11.out.at (List.mem_cons_self ..)).lt) (fun hHeld6 => ?_)
           clear hK K hHeld5
           try simp only [Act.put, LsA, LsB, LsC, LsD, LsE, LsF]
           refine wpAnyH_take (i := 10) (v := ?_) rfl (by kernel_rfl) (by kernel_rfl) (by kernel_rfl) (fun _ _ _ h => h) (Or.inl ⟨by rfl, ?_⟩) hHeld6 ?_
           rotate_left
           ·intro w hSw1
            try dsimp only at hSw1
            go_simp
            try (with_reducible rfl)
           try simp only [Act.put, LsA, LsB, LsC, LsD, LsE, LsF]
           refine wpAnyH_ready (rs := [11]) (by kernel_rfl) (by simp) ?_
           refine AllReadyH.cons rfl (fun K hK => ?_) AllReadyH.nil
           go_simp; go_wp2_with fail; refine letterQ (K := K) ?_; intro U hU; obtain ⟨eb, heb⟩ : ∃ eb, eb = X11.heap.size := ⟨_, rfl⟩; have GB : Hid (Qx 124 w U p (rnum (rnum (rtext (rtext s3 2097152).2 2097152).2).2).2 ((ob, 113, #[.slice pa l.length pc, .bool false, .int .i64 0]) :: (ab, 54, (anc ⟨c0, q0, e0, r0, y0, [], []⟩ (.slice oa m.length oc)).toArray) :: (rb, 54, anZ7) :: []) m oa oc l pa pc) := Lib.hid (by rw [hU]; exact H11.out.quiet ((Step.refl [] _).alloc _)); have B3 : Hid (Blk U eb 115 (prc (⟨(rtext s3 2097152).1, (rtext (rtext s3 2097152).2 2097152).1, (rnum (rtext (rtext s3 2097152).2 2097152).2).1, (rnum (rnum (rtext (rtext s3 2097152).2 2097152).2).2).1⟩ : Pr)).toArray) := Lib.hid (by rw [hU, heb]; exact Blk.new _ _ _); rw [← heb]; clear hU heb
           refine hK.out _ _ (Lib.hid (GB.out.at (List.mem_cons_self ..)).lt) (fun hHeld7 => ?_)
           clear hK K hHeld6
           try simp only [Act.put, LsA, LsB, LsC, LsD, LsE, LsF]
           refine wpAnyH_ready (rs := [12]) (by kernel_rfl) (by simp) ?_
           refine AllReadyH.cons rfl (fun K hK => ?_) AllReadyH.nil
           have HRW : Hid (Row U 4 pa l.length pc (prcs l)) := Lib.hid GB.out.prow; refine step_append_row rfl (.tmp 45) (.tmp 55) 111 111 rfl 115 i0 _ 4 48 Try.underlying111 HI.out.1 HI.out.2.1 HI.out.2.2.1 HI.out.2.2.2 rfl rfl HRW.out rfl (Src.rd 111 115 Try.underlying111 (rd_blk' (xs := prc (⟨(rtext s3 2097152).1, (rtext (rtext s3 2097152).2 2097152).1, (rnum (rtext (rtext s3 2097152).2 2097152).2).1, (rnum (rnum (rtext (rtext s3 2097152).2 2097152).2).2).1⟩ : Pr)) B3.out 4 1 rfl) (prc_one _)) (by unfold maxLen; omega) (by omega) (by omega) ?_; intro a9 c9 w9 hr9 st9; have G8 : Hid (Qx 124 w w9 p (rnum (rnum (rtext (rtext s3 2097152).2 2097152).2).2).2 ((ob, 113, #[.slice pa l.length pc, .bool false, .int .i64 0]) :: (ab, 54, (anc ⟨c0, q0, e0, r0, y0, [], []⟩ (.slice oa m.length oc)).toArray) :: (rb, 54, anZ7) :: []) m oa oc (l ++ [(⟨(rtext s3 2097152).1, (rtext (rtext s3 2097152).2 2097152).1, (rnum (rtext (rtext s3 2097152).2 2097152).2).1, (rnum (rnum (rtext (rtext s3 2097152).2 2097152).2).2).1⟩ : Pr)]) a9 c9) := Lib.hid (GB.out.growP st9 hr9); clear hr9 st9; have zb := G8.out.at (List.mem_cons_self ..); have zf := zb.frozen 0; have zl := zb.lt; clear zb
           refine hK.out _ _ (Lib.hid (G8.out.at (List.mem_cons_self ..)).lt) (fun hHeld8 => ?_)
           clear hK K hHeld7
           try simp only [Act.put, LsA, LsB, LsC, LsD, LsE, LsF]
           refine wpAnyH_take (i := 13) (v := ?_) rfl (by kernel_rfl) (by kernel_rfl) (by kernel_rfl) (fun _ _ _ h => h) (Or.inl ⟨by rfl, ?_⟩) hHeld8 ?_
           rotate_left
           ·intro w hSw1
            try dsimp only at hSw1
            go_simp
            try (with_reducible rfl)
           try simp only [Act.put, LsA, LsB, LsC, LsD, LsE, LsF]
           refine wpAnyH_ready (rs := [14]) (by kernel_rfl) (by simp) ?_
           refine AllReadyH.cons rfl (fun K hK => ?_) AllReadyH.nil
           have zc0 := (G8.out.at (List.mem_cons_self ..)).cell 0; simp only [List.getElem?_toArray, List.getElem?_cons_zero] at zc0; go_simp; go_wp2_with fail; clear zc0
           refine hK.out _ _ (Lib.hid (by simpa using zl)) (fun hHeld9 => ?_)
           clear hK K hHeld8
           try simp only [Act.put, LsA, LsB, LsC, LsD, LsE, LsF]
           refine wpAnyH_done (by kernel_rfl) ?_ _
           clear zf zl
           obtain ⟨U9, hU9⟩ : ∃ U9, U9 = (w9.setCell ⟨ob, 0, none⟩ (.slice a9 (l.length + 1) c9)) := ⟨_, rfl⟩
           have G9 : Hid (Qx 124 w U9 p (rnum (rnum (rtext (rtext s3 2097152).2 2097152).2).2).2 ((ob, 113, #[.slice a9 (l ++ [(⟨(rtext s3 2097152).1, (rtext (rtext s3 2097152).2 2097152).1, (rnum (rtext (rtext s3 2097152).2 2097152).2).1, (rnum (rnum (rtext (rtext s3 2097152).2 2097152).2).2).1⟩ : Pr)]).length c9, .bool false, .int .i64 0]) :: (ab, 54, (anc ⟨c0, q0, e0, r0, y0, [], []⟩ (.slice oa m.length oc)).toArray) :: (rb, 54, anZ7) :: []) m oa oc (l ++ [(⟨(rtext s3 2097152).1, (rtext (rtext s3 2097152).2 2097152).1, (rnum (rtext (rtext s3 2097152).2 2097152).2).1, (rnum (rnum (rtext (rtext s3 2097152).2 2097152).2).2).1⟩ : Pr)]) a9 c9) := Lib.hid (by rw [hU9]; have hq := Qx.put (K1 := []) G8.out ((Step.refl [ob] w9).setCell (.inl (by simp)) _) ((G8.out.at (List.mem_cons_self ..)).set 0 (.slice a9 (l.length + 1) c9)); simpa using hq)
           rw [← hU9]
           clear hU9 G8 GB B3
           go_wp2_with fail
           go_roundw
           case rel => exact ⟨k, l ++ [(⟨(rtext s3 2097152).1, (rtext (rtext s3 2097152).2 2097152).1, (rnum (rtext (rtext s3 2097152).2 2097152).2).1, (rnum (rnum (rtext (rtext s3 2097152).2 2097152).2).2).1⟩ : Pr)], a9, c9, (rnum (rnum (rtext (rtext s3 2097152).2 2097152).2).2).2, by omega, by rw [List.length_append, List.length_singleton]; omega, by intro hb; rcases HLP.out with g | g; (exfalso; have e0 : (rnum (rnum (rtext (rtext s3 2097152).2 2097152).2).2).2 = rfail := g; rw [e0] at hb; simp [rfail] at hb); (have e0 : (rnum (rnum (rtext (rtext s3 2097152).2 2097152).2).2).2.s.length < s3.s.length := g; simp; omega), by go_num, Lib.hid ⟨G9.out, HSp.out⟩⟩
           case measure => first | (simp [intOf]; done) | (simp [intOf]; omega)
          ·skip
           go_simp
           refine (qd_text H8.out 2097152).mono ?_; rintro e X12 ⟨rfl, t⟩; have H12 := Lib.hid t; clear t
           go_wp2_with fail
           refine hK.out _ _ (Lib.hid (H12.out.at (List.mem_cons_self ..)).lt) (fun hHeld3 => ?_)
           clear hK K hHeld2
           try simp only [Act.put, LsA, LsB, LsC, LsD, LsE, LsF]
           refine wpAnyH_ready (rs := [1, 7]) (by kernel_rfl) (by simp) ?_
           refine AllReadyH.cons rfl (fun K hK => ?_) (AllReadyH.cons rfl (fun K hK => ?_) (AllReadyH.nil))
           ·skip
            have zc := (H12.out.at (List.mem_cons_self ..)).cell; have z0 := zc 0; clear zc; simp only [anc, List.getElem?_toArray, List.getElem?_cons_zero, List.getElem?_cons_succ] at z0; have zl := (H12.out.at (List.mem_cons_self ..)).lt; go_simp; go_wp2_with fail; clear z0 zl
            refine hK.out _ _ (hHeld3) (fun hHeld4 => ?_)
            clear hK K hHeld3
            try simp only [Act.put, LsA, LsB, LsC, LsD, LsE, LsF]
            refine wpAnyH_ready (rs := [7]) (by kernel_rfl) (by simp) ?_
            refine AllReadyH.cons rfl (fun K hK => ?_) AllReadyH.nil
            go_simp
            refine (qd_num H12.out).mono ?_; rintro e X13 ⟨rfl, t⟩; have H13 := Lib.hid t; clear t
            go_wp2_with fail
            refine hK.out _ _ (Lib.hid (H13.out.at (List.mem_cons_self ..)).lt) (fun hHeld5 => ?_)
            clear hK K hHeld4
            try simp only [Act.put, LsA, LsB, LsC, LsD, LsE, LsF]
            refine wpAnyH_ready (rs := [9]) (by kernel_rfl) (by simp) ?_
            refine AllReadyH.cons rfl (fun K hK => ?_) AllReadyH.nil
            go_simp
            refine (qd_num H13.out).mono ?_; rintro e X14 ⟨rfl, t⟩; have H14 := Lib.hid t; clear t
            go_wp2_with fail
            refine hK.out _ _ (Lib.hid (H14.out.at (List.mem_cons_self ..)).lt) (fun hHeld6 => ?_)
            clear hK K hHeld5
            try simp only [Act.put, LsA, LsB, LsC, LsD, LsE, LsF]
            refine wpAnyH_take (i := 10) (v := ?_) rfl (by kernel_rfl) (by kernel_rfl) (by kernel_rfl) (fun _ _ _ h => h) (Or.inl ⟨by rfl, ?_⟩) hHeld6 ?_
            rotate_left
            ·intro w hSw1
             try dsimp only at hSw1
             go_simp
             try (with_reducible rfl)
            try simp only [Act.put, LsA, LsB, LsC, LsD, LsE, LsF]
            refine wpAnyH_ready (rs := [11]) (by kernel_rfl) (by simp) ?_
            refine AllReadyH.cons rfl (fun K hK => ?_) AllReadyH.nil
            go_simp; go_wp2_with fail; refine letterQ (K := K) ?_; intro U hU; obtain ⟨eb, heb⟩ : ∃ eb, eb = X14.heap.size := ⟨_, rfl⟩; have GB : Hid (Qx 124 w U p (rnum (rnum (rtext (rtext s3 2097152).2 2097152).2).2).2 ((ob, 113, #[.slice pa l.length pc, .bool false, .int .i64 0]) :: (ab, 54, (anc ⟨c0, q0, e0, r0, y0, [], []⟩ (.slice oa m.length oc)).toArray) :: (rb, 54, anZ7) :: []) m oa oc l pa pc) := Lib.hid (by rw [hU]; exact H14.out.quiet ((Step.refl [] _).alloc _)); have B3 : Hid (Blk U eb 115 (prc (⟨(rtext s3 2097152).1, (rtext (rtext s3 2097152).2 2097152).1, (rnum (rtext (rtext s3 2097152).2 2097152).2).1, (rnum (rnum (rtext (rtext s3 2097152).2 2097152).2).2).1⟩ : Pr)).toArray) := Lib.hid (by rw [hU, heb]; exact Blk.new _ _ _); rw [← heb]; clear hU heb
            refine hK.out _ _ (Lib.hid (GB.out.at (List.mem_cons_self ..)).lt) (fun hHeld7 => ?_)
            clear hK K hHeld6
            try simp only [Act.put, LsA, LsB, LsC, LsD, LsE, LsF]
            refine wpAnyH_ready (rs := [12]) (by kernel_rfl) (by simp) ?_
            refine AllReadyH.cons rfl (fun K hK => ?_) AllReadyH.nil
            have HRW : Hid (Row U 4 pa l.length pc (prcs l)) := Lib.hid GB.out.prow; refine step_append_row rfl (.tmp 45) (.tmp 55) 111 111 rfl 115 i0 _ 4 48 Try.underlying111 HI.out.1 HI.out.2.1 HI.out.2.2.1 HI.out.2.2.2 rfl rfl HRW.out rfl (Src.rd 111 115 Try.underlying111 (rd_blk' (xs := prc (⟨(rtext s3 2097152).1, (rtext (rtext s3 2097152).2 2097152).1, (rnum (rtext (rtext s3 2097152).2 2097152).2).1, (rnum (rnum (rtext (rtext s3 2097152).2 2097152).2).2).1⟩ : Pr)) B3.out 4 1 rfl) (prc_one _)) (by unfold maxLen; omega) (by omega) (by omega) ?_; intro a9 c9 w9 hr9 st9; have G8 : Hid (Qx 124 w w9 p (rnum (rnum (rtext (rtext s3 2097152).2 2097152).2).2).2 ((ob, 113, #[.slice pa l.length pc, .bool false, .int .i64 0]) :: (ab, 54, (anc ⟨c0, q0, e0, r0, y0, [], []⟩ (.slice oa m.length oc)).toArray) :: (rb, 54, anZ7) :: []) m oa oc (l ++ [(⟨(rtext s3 2097152).1, (rtext (rtext s3 2097152).2 2097152).1, (rnum (rtext (rtext s3 2097152).2 2097152).2).1, (rnum (rnum (rtext (rtext s3 2097152).2 2097152).2).2).1⟩ : Pr)]) a9 c9) := Lib.hid (GB.out.growP st9 hr9); clear hr9 st9; have zb := G8.out.at (List.mem_cons_self ..); have zf := zb.frozen 0; have zl := zb.lt; clear zb
            refine hK.out _ _ (Lib.hid (G8.out.at (List.mem_cons_self ..)).lt) (fun hHeld8 => ?_)
            clear hK K hHeld7
            try simp only [Act.put, LsA, LsB, LsC, LsD, LsE, LsF]
            refine wpAnyH_take (i := 13) (v := ?_) rfl (by kernel_rfl) (by kernel_rfl) (by kernel_rfl) (fun _ _ _ h => h) (Or.inl ⟨by rfl, ?_⟩) hHeld8 ?_
            rotate_left
            ·intro w hSw1
             try dsimp only at hSw1
             go_simp
             try (with_reducible rfl)
            try simp only [Act.put, LsA, LsB, LsC, LsD, LsE, LsF]
            refine wpAnyH_ready (rs := [14]) (by kernel_rfl) (by simp) ?_
            refine AllReadyH.cons rfl (fun K hK => ?_) AllReadyH.nil
            have zc0 := (G8.out.at (List.mem_cons_self ..)).cell 0; simp only [List.getElem?_toArray, List.getElem?_cons_zero] at zc0; go_simp; go_wp2_with fail; clear zc0
            refine hK.out _ _ (Lib.hid (by simpa using zl)) (fun hHeld9 => ?_)
            clear hK K hHeld8
            try simp only [Act.put, LsA, LsB, LsC, LsD, LsE, LsF]
            refine wpAnyH_done (by kernel_rfl) ?_ _
            clear zf zl
            obtain ⟨U9, hU9⟩ : ∃ U9, U9 = (w9.setCell ⟨ob, 0, none⟩ (.slice a9 (l.length + 1) c9)) := ⟨_, rfl⟩
            have G9 : Hid (Qx 124 w U9 p (rnum (rnum (rtext (rtext s3 2097152).2 2097152).2).2).2 ((ob, 113, #[.slice a9 (l ++ [(⟨(rtext s3 2097152).1, (rtext (rtext s3 2097152).2 2097152).1, (rnum (rtext (rtext s3 2097152).2 2097152).2).1, (rnum (rnum (rtext (rtext s3 2097152).2 2097152).2).2).1⟩ : Pr)]).length c9, .bool false, .int .i64 0]) :: (ab, 54, (anc ⟨c0, q0, e0, r0, y0, [], []⟩ (.slice oa m.length oc)).toArray) :: (rb, 54, anZ7) :: []) m oa oc (l ++ [(⟨(rtext s3 2097152).1, (rtext (rtext s3 2097152).2 2097152).1, (rnum (rtext (rtext s3 2097152).2 2097152).2).1, (rnum (rnum (rtext (rtext s3 2097152).2 2097152).2).2).1⟩ : Pr)]) a9 c9) := Lib.hid (by rw [hU9]; have hq := Qx.put (K1 := []) G8.out ((Step.refl [ob] w9).setCell (.inl (by simp)) _) ((G8.out.at (List.mem_cons_self ..)).set 0 (.slice a9 (l.length + 1) c9)); simpa using hq)
            rw [← hU9]
            clear hU9 G8 GB B3
            go_wp2_with fail
            go_roundw
            case rel => exact ⟨k, l ++ [(⟨(rtext s3 2097152).1, (rtext (rtext s3 2097152).2 2097152).1, (rnum (rtext (rtext s3 2097152).2 2097152).2).1, (rnum (rnum (rtext (rtext s3 2097152).2 2097152).2).2).1⟩ : Pr)], a9, c9, (rnum (rnum (rtext (rtext s3 2097152).2 2097152).2).2).2, by omega, by rw [List.length_append, List.length_singleton]; omega, by intro hb; rcases HLP.out with g | g; (exfalso; have e0 : (rnum (rnum (rtext (rtext s3 2097152).2 2097152).2).2).2 = rfail := g; rw [e0] at hb; simp [rfail] at hb); (have e0 : (rnum (rnum (rtext (rtext s3 2097152).2 2097152).2).2).2.s.length < s3.s.length := g; simp; omega), by go_num, Lib.hid ⟨G9.out, HSp.out⟩⟩
            case measure => first | (simp [intOf]; done) | (simp [intOf]; omega)
           ·skip
            go_simp
            refine (qd_num H12.out).mono ?_; rintro e X15 ⟨rfl, t⟩; have H15 := Lib.hid t; clear t
            go_wp2_with fail
            refine hK.out _ _ (Lib.hid (H15.out.at (List.mem_cons_self ..)).lt) (fun hHeld4 => ?_)
            clear hK K hHeld3
            try simp only [Act.put, LsA, LsB, LsC, LsD, LsE, LsF]
            refine wpAnyH_ready (rs := [1, 9]) (by kernel_rfl) (by simp) ?_
            refine AllReadyH.cons rfl (fun K hK => ?_) (AllReadyH.cons rfl (fun K hK => ?_) (AllReadyH.nil))
            ·skip
             have zc := (H15.out.at (List.mem_cons_self ..)).cell; have z0 := zc 0; clear zc; simp only [anc, List.getElem?_toArray, List.getElem?_cons_zero, List.getElem?_cons_succ] at z0; have zl := (H15.out.at (List.mem_cons_self ..)).lt; go_simp; go_wp2_with fail; clear z0 zl
             refine hK.out _ _ (hHeld4) (fun hHeld5 => ?_)
             clear hK K hHeld4
             try simp only [Act.put, LsA, LsB, LsC, LsD, LsE, LsF]
             refine wpAnyH_ready (rs := [9]) (by kernel_rfl) (by simp) ?_
             refine AllReadyH.cons rfl (fun K hK => ?_) AllReadyH.nil
             go_simp
             refine (qd_num H15.out).mono ?_; rintro e X16 ⟨rfl, t⟩; have H16 := Lib.hid t; clear t
             go_wp2_with fail
             refine hK.out _ _ (Lib.hid (H16.out.at (List.mem_cons_self ..)).lt) (fun hHeld6 => ?_)
             clear hK K hHeld5
             try simp only [Act.put, LsA, LsB, LsC, LsD, LsE, LsF]
             refine wpAnyH_take (i := 10) (v := ?_) rfl (by kernel_rfl) (by kernel_rfl) (by kernel_rfl) (fun _ _ _ h => h) (Or.inl ⟨by rfl, ?_⟩) hHeld6 ?_
             rotate_left
             ·intro w hSw1
              try dsimp only at hSw1
              go_simp
              try (with_reducible rfl)
             try simp only [Act.put, LsA, LsB, LsC, LsD, LsE, LsF]
             refine wpAnyH_ready (rs := [11]) (by kernel_rfl) (by simp) ?_
             refine AllReadyH.cons rfl (fun K hK => ?_) AllReadyH.nil
             go_simp; go_wp2_with fail; refine letterQ (K := K) ?_; intro U hU; obtain ⟨eb, heb⟩ : ∃ eb, eb = X16.heap.size := ⟨_, rfl⟩; have GB : Hid (Qx 124 w U p (rnum (rnum (rtext (rtext s3 2097152).2 2097152).2).2).2 ((ob, 113, #[.slice pa l.length pc, .bool false, .int .i64 0]) :: (ab, 54, (anc ⟨c0, q0, e0, r0, y0, [], []⟩ (.slice oa m.length oc)).toArray) :: (rb, 54, anZ7) :: []) m oa oc l pa pc) := Lib.hid (by rw [hU]; exact H16.out.quiet ((Step.refl [] _).alloc _)); have B3 : Hid (Blk U eb 115 (prc (⟨(rtext s3 2097152).1, (rtext (rtext s3 2097152).2 2097152).1, (rnum (rtext (rtext s3 2097152).2 2097152).2).1, (rnum (rnum (rtext (rtext s3 2097152).2 2097152).2).2).1⟩ : Pr)).toArray) := Lib.hid (by rw [hU, heb]; exact Blk.new _ _ _); rw [← heb]; clear hU heb
             refine hK.out _ _ (Lib.hid (GB.out.at (List.mem_cons_self ..)).lt) (fun hHeld7 => ?_)
             clear hK K hHeld6
             try simp only [Act.put, LsA, LsB, LsC, LsD, LsE, LsF]
             refine wpAnyH_ready (rs := [12]) (by kernel_rfl) (by simp) ?_
             refine AllReadyH.cons rfl (fun K hK => ?_) AllReadyH.nil
             have HRW : Hid (Row U 4 pa l.length pc (prcs l)) := Lib.hid GB.out.prow; refine step_append_row rfl (.tmp 45) (.tmp 55) 111 111 rfl 115 i0 _ 4 48 Try.underlying111 HI.out.1 HI.out.2.1 HI.out.2.2.1 HI.out.2.2.2 rfl rfl HRW.out rfl (Src.rd 111 115 Try.underlying111 (rd_blk' (xs := prc (⟨(rtext s3 2097152).1, (rtext (rtext s3 2097152).2 2097152).1, (rnum (rtext (rtext s3 2097152).2 2097152).2).1, (rnum (rnum (rtext (rtext s3 2097152).2 2097152).2).2).1⟩ : Pr)) B3.out 4 1 rfl) (prc_one _)) (by unfold maxLen; omega) (by omega) (by omega) ?_; intro a9 c9 w9 hr9 st9; have G8 : Hid (Qx 124 w w9 p (rnum (rnum (rtext (rtext s3 2097152).2 2097152).2).2).2 ((ob, 113, #[.slice pa l.length pc, .bool false, .int .i64 0]) :: (ab, 54, (anc ⟨c0, q0, e0, r0, y0, [], []⟩ (.slice oa m.length oc)).toArray) :: (rb, 54, anZ7) :: []) m oa oc (l ++ [(⟨(rtext s3 2097152).1, (rtext (rtext s3 2097152).2 2097152).1, (rnum (rtext (rtext s3 2097152).2 2097152).2).1, (rnum (rnum (rtext (rtext s3 2097152).2 2097152).2).2).1⟩ : Pr)]) a9 c9) := Lib.hid (GB.out.growP st9 hr9); clear hr9 st9; have zb := G8.out.at (List.mem_cons_self ..); have zf := zb.frozen 0; have zl := zb.lt; clear zb
             refine hK.out _ _ (Lib.hid (G8.out.at (List.mem_cons_self ..)).lt) (fun hHeld8 => ?_)
             clear hK K hHeld7
             try simp only [Act.put, LsA, LsB, LsC, LsD, LsE, LsF]
             refine wpAnyH_take (i := 13) (v := ?_) rfl (by kernel_rfl) (by kernel_rfl) (by kernel_rfl) (fun _ _ _ h => h) (Or.inl ⟨by rfl, ?_⟩) hHeld8 ?_
             rotate_left
             ·intro w hSw1
              try dsimp only at hSw1
              go_simp
              try (with_reducible rfl)
             try simp only [Act.put, LsA, LsB, LsC, LsD, LsE, LsF]
             refine wpAnyH_ready (rs := [14]) (by kernel_rfl) (by simp) ?_
             refine AllReadyH.cons rfl (fun K hK => ?_) AllReadyH.nil
             have zc0 := (G8.out.at (List.mem_cons_self ..)).cell 0; simp only [List.getElem?_toArray, List.getElem?_cons_zero] at zc0; go_simp; go_wp2_with fail; clear zc0
             refine hK.out _ _ (Lib.hid (by simpa using zl)) (fun hHeld9 => ?_)
             clear hK K hHeld8
             try simp only [Act.put, LsA, LsB, LsC, LsD, LsE, LsF]
             refine wpAnyH_done (by kernel_rfl) ?_ _
             clear zf zl
             obtain ⟨U9, hU9⟩ : ∃ U9, U9 = (w9.setCell ⟨ob, 0, none⟩ (.slice a9 (l.length + 1) c9)) := ⟨_, rfl⟩
             have G9 : Hid (Qx 124 w U9 p (rnum (rnum (rtext (rtext s3 2097152).2 2097152).2).2).2 ((ob, 113, #[.slice a9 (l ++ [(⟨(rtext s3 2097152).1, (rtext (rtext s3 2097152).2 2097152).1, (rnum (rtext (rtext s3 2097152).2 2097152).2).1, (rnum (rnum (rtext (rtext s3 2097152).2 2097152).2).2).1⟩ : Pr)]).length c9, .bool false, .int .i64 0]) :: (ab, 54, (anc ⟨c0, q0, e0, r0, y0, [], []⟩ (.slice oa m.length oc)).toArray) :: (rb, 54, anZ7) :: []) m oa oc (l ++ [(⟨(rtext s3 2097152).1, (rtext (rtext s3 2097152).2 2097152).1, (rnum (rtext (rtext s3 2097152).2 2097152).2).1, (rnum (rnum (rtext (rtext s3 2097152).2 2097152).2).2).1⟩ : Pr)]) a9 c9) := Lib.hid (by rw [hU9]; have hq := Qx.put (K1 := []) G8.out ((Step.refl [ob] w9).setCell (.inl (by simp)) _) ((G8.out.at (List.mem_cons_self ..)).set 0 (.slice a9 (l.length + 1) c9)); simpa using hq)
             rw [← hU9]
             clear hU9 G8 GB B3
             go_wp2_with fail
             go_roundw
             case rel => exact ⟨k, l ++ [(⟨(rtext s3 2097152).1, (rtext (rtext s3 2097152).2 2097152).1, (rnum (rtext (rtext s3 2097152).2 2097152).2).1, (rnum (rnum (rtext (rtext s3 2097152).2 2097152).2).2).1⟩ : Pr)], a9, c9, (rnum (rnum (rtext (rtext s3 2097152).2 2097152).2).2).2, by omega, by rw [List.length_append, List.length_singleton]; omega, by intro hb; rcases HLP.out with g | g; (exfalso; have e0 : (rnum (rnum (rtext (rtext s3 2097152).2 2097152).2).2).2 = rfail := g; rw [e0] at hb; simp [rfail] at hb); (have e0 : (rnum (rnum (rtext (rtext s3 2097152).2 2097152).2).2).2.s.length < s3.s.length := g; simp; omega), by go_num, Lib.hid ⟨G9.out, HSp.out⟩⟩
             case measure => first | (simp [intOf]; done) | (simp [intOf]; omega)
            ·skip
             go_simp
             refine (qd_num H15.out).mono ?_; rintro e X17 ⟨rfl, t⟩; have H17 := Lib.hid t; clear t
             go_wp2_with fail
             refine hK.out _ _ (Lib.hid (H17.out.at (List.mem_cons_self ..)).lt) (fun hHeld5 => ?_)
             clear hK K hHeld4
             try simp only [Act.put, LsA, LsB, LsC, LsD, LsE, LsF]
             refine wpAnyH_take (i := 10) (v := ?_) rfl (by kernel_rfl) (by kernel_rfl) (by kernel_rfl) (fun _ _ _ h => h) (Or.inl ⟨by rfl, ?_⟩) hHeld5 ?_
             rotate_left
             ·intro w hSw1
              try dsimp only at hSw1
              go_simp
              try (with_reducible rfl)
             try simp only [Act.put, LsA, LsB, LsC, LsD, LsE, LsF]
             refine wpAnyH_ready (rs := [1, 11]) (by kernel_rfl) (by simp) ?_
             refine AllReadyH.cons rfl (fun K hK => ?_) (AllReadyH.cons rfl (fun K hK => ?_) (AllReadyH.nil))
             ·skip
              have zc := (H17.out.at (List.mem_cons_self ..)).cell; have z0 := zc 0; clear zc; simp only [anc, List.getElem?_toArray, List.getElem?_cons_zero, List.getElem?_cons_succ] at z0; have zl := (H17.out.at (List.mem_cons_self ..)).lt; go_simp; go_wp2_with fail; clear z0 zl
              refine hK.out _ _ (hHeld5) (fun hHeld6 => ?_)
              clear hK K hHeld5
              try simp only [Act.put, LsA, LsB, LsC, LsD, LsE, LsF]
              refine wpAnyH_ready (rs := [11]) (by kernel_rfl) (by simp) ?_
              refine AllReadyH.cons rfl (fun K hK => ?_) AllReadyH.nil
              go_simp; go_wp2_with fail; refine letterQ (K := K) ?_; intro U hU; obtain ⟨eb, heb⟩ : ∃ eb, eb = X17.heap.size := ⟨_, rfl⟩; have GB : Hid (Qx 124 w U p (rnum (rnum (rtext (rtext s3 2097152).2 2097152).2).2).2 ((ob, 113, #[.slice pa l.length pc, .bool false, .int .i64 0]) :: (ab, 54, (anc ⟨c0, q0, e0, r0, y0, [], []⟩ (.slice oa m.length oc)).toArray) :: (rb, 54, anZ7) :: []) m oa oc l pa pc) := Lib.hid (by rw [hU]; exact H17.out.quiet ((Step.refl [] _).alloc _)); have B3 : Hid (Blk U eb 115 (prc (⟨(rtext s3 2097152).1, (rtext (rtext s3 2097152).2 2097152).1, (rnum (rtext (rtext s3 2097152).2 2097152).2).1, (rnum (rnum (rtext (rtext s3 2097152).2 2097152).2).2).1⟩ : Pr)).toArray) := Lib.hid (by rw [hU, heb]; exact Blk.new _ _ _); rw [← heb]; clear hU heb
              refine hK.out _ _ (Lib.hid (GB.out.at (List.mem_cons_self ..)).lt) (fun hHeld7 => ?_)
              clear hK K hHeld6
              try simp only [Act.put, LsA, LsB, LsC, LsD, LsE, LsF]
              refine wpAnyH_ready (rs := [12]) (by kernel_rfl) (by simp) ?_
              refine AllReadyH.cons rfl (fun K hK => ?_) AllReadyH.nil
              have HRW : Hid (Row U 4 pa l.length pc (prcs l)) := Lib.hid GB.out.prow; refine step_append_row rfl (.tmp 45) (.tmp 55) 111 111 rfl 115 i0 _ 4 48 Try.underlying111 HI.out.1 HI.out.2.1 HI.out.2.2.1 HI.out.2.2.2 rfl rfl HRW.out rfl (Src.rd 111 115 Try.underlying111 (rd_blk' (xs := prc (⟨(rtext s3 2097152).1, (rtext (rtext s3 2097152).2 2097152).1, (rnum (rtext (rtext s3 2097152).2 2097152).2).1, (rnum (rnum (rtext (rtext s3 2097152).2 2097152).2).2).1⟩ : Pr)) B3.out 4 1 rfl) (prc_one _)) (by unfold maxLen; omega) (by omega) (by omega) ?_; intro a9 c9 w9 hr9 st9; have G8 : Hid (Qx 124 w w9 p (rnum (rnum (rtext (rtext s3 2097152).2 2097152).2).2).2 ((ob, 113, #[.slice pa l.length pc, .bool false, .int .i64 0]) :: (ab, 54, (anc ⟨c0, q0, e0, r0, y0, [], []⟩ (.slice oa m.length oc)).toArray) :: (rb, 54, anZ7) :: []) m oa oc (l ++ [(⟨(rtext s3 2097152).1, (rtext (rtext s3 2097152).2 2097152).1, (rnum (rtext (rtext s3 2097152).2 2097152).2).1, (rnum (rnum (rtext (rtext s3 2097152).2 2097152).2).2).1⟩ : Pr)]) a9 c9) := Lib.hid (GB.out.growP st9 hr9); clear hr9 st9; have zb := G8.out.at (List.mem_cons_self ..); have zf := zb.frozen 0; have zl := zb.lt; clear zb
              refine hK.out _ _ (Lib.hid (G8.out.at (List.mem_cons_self ..)).lt) (fun hHeld8 => ?_)
              clear hK K hHeld7
              try simp only [Act.put, LsA, LsB, LsC, LsD, LsE, LsF]
              refine wpAnyH_take (i := 13) (v := ?_) rfl (by kernel_rfl) (by kernel_rfl) (by kernel_rfl) (fun _ _ _ h => h) (Or.inl ⟨by rfl, ?_⟩) hHeld8 ?_
              rotate_left
              ·intro w hSw1
               try dsimp only at hSw1
               go_simp
               try (with_reducible rfl)
              try simp only [Act.put, LsA, LsB, LsC, LsD, LsE, LsF]
              refine wpAnyH_ready (rs := [14]) (by kernel_rfl) (by simp) ?_
              refine AllReadyH.cons rfl (fun K hK => ?_) AllReadyH.nil
              have zc0 := (G8.out.at (List.mem_cons_self ..)).cell 0; simp only [List.getElem?_toArray, List.getElem?_cons_zero] at zc0; go_simp; go_wp2_with fail; clear zc0
              refine hK.out _ _ (Lib.hid (by simpa using zl)) (fun hHeld9 => ?_)
              clear hK K hHeld8
              try simp only [Act.put, LsA, LsB, LsC, LsD, LsE, LsF]
              refine wpAnyH_done (by kernel_rfl) ?_ _
              clear zf zl
              obtain ⟨U9, hU9⟩ : ∃ U9, U9 = (w9.setCell ⟨ob, 0, none⟩ (.slice a9 (l.length + 1) c9)) := ⟨_, rfl⟩
              have G9 : Hid (Qx 124 w U9 p (rnum (rnum (rtext (rtext s3 2097152).2 2097152).2).2).2 ((ob, 113, #[.slice a9 (l ++ [(⟨(rtext s3 2097152).1, (rtext (rtext s3 2097152).2 2097152).1, (rnum (rtext (rtext s3 2097152).2 2097152).2).1, (rnum (rnum (rtext (rtext s3 2097152).2 2097152).2).2).1⟩ : Pr)]).length c9, .bool false, .int .i64 0]) :: (ab, 54, (anc ⟨c0, q0, e0, r0, y0, [], []⟩ (.slice oa m.length oc)).toArray) :: (rb, 54, anZ7) :: []) m oa oc (l ++ [(⟨(rtext s3 2097152).1, (rtext (rtext s3 2097152).2 2097152).1, (rnum (rtext (rtext s3 2097152).2 2097152).2).1, (rnum (rnum (rtext (rtext s3 2097152).2 2097152).2).2).1⟩ : Pr)]) a9 c9) := Lib.hid (by rw [hU9]; have hq := Qx.put (K1 := []) G8.out ((Step.refl [ob] w9).setCell (.inl (by simp)) _) ((G8.out.at (List.mem_cons_self ..)).set 0 (.slice a9 (l.length + 1) c9)); simpa using hq)
              rw [← hU9]
              clear hU9 G8 GB B3
              go_wp2_with fail
              go_roundw
              case rel => exact ⟨k, l ++ [(⟨(rtext s3 2097152).1, (rtext (rtext s3 2097152).2 2097152).1, (rnum (rtext (rtext s3 2097152).2 2097152).2).1, (rnum (rnum (rtext (rtext s3 2097152).2 2097152).2).2).1⟩ : Pr)], a9, c9, (rnum (rnum (rtext (rtext s3 2097152).2 2097152).2).2).2, by omega, by rw [List.length_append, List.length_singleton]; omega, by intro hb; rcases HLP.out with g | g; (exfalso; have e0 : (rnum (rnum (rtext (rtext s3 2097152).2 2097152).2).2).2 = rfail := g; rw [e0] at hb; simp [rfail] at hb); (have e0 : (rnum (rnum (rtext (rtext s3 2097152).2 2097152).2).2).2.s.length < s3.s.length := g; simp; omega), by go_num, Lib.hid ⟨G9.out, HSp.out⟩⟩
              case measure => first | (simp [intOf]; done) | (simp [intOf]; omega)
             ·skip
              go_simp; go_wp2_with fail; refine letterQ (K := K) ?_; intro U hU; obtain ⟨eb, heb⟩ : ∃ eb, eb = X17.heap.size := ⟨_, rfl⟩; have GB : Hid (Qx 124 w U p (rnum (rnum (rtext (rtext s3 2097152).2 2097152).2).2).2 ((ob, 113, #[.slice pa l.length pc, .bool false, .int .i64 0]) :: (ab, 54, (anc ⟨c0, q0, e0, r0, y0, [], []⟩ (.slice oa m.length oc)).toArray) :: (rb, 54, anZ7) :: []) m oa oc l pa pc) := Lib.hid (by rw [hU]; exact H17.out.quiet ((Step.refl [] _).alloc _)); have B3 : Hid (Blk U eb 115 (prc (⟨(rtext s3 2097152).1, (rtext (rtext s3 2097152).2 2097152).1, (rnum (rtext (rtext s3 2097152).2 2097152).2).1, (rnum (rnum (rtext (rtext s3 2097152).2 2097152).2).2).1⟩ : Pr)).toArray) := Lib.hid (by rw [hU, heb]; exact Blk.new _ _ _); rw [← heb]; clear hU heb
              refine hK.out _ _ (Lib.hid (GB.out.at (List.mem_cons_self ..)).lt) (fun hHeld6 => ?_)
              clear hK K hHeld5
              try simp only [Act.put, LsA, LsB, LsC, LsD, LsE, LsF]
              refine wpAnyH_ready (rs := [1]) (by kernel_rfl) (by simp) ?_
              refine AllReadyH.cons rfl (fun K hK => ?_) AllReadyH.nil
              have zc := (GB.out.at (List.mem_cons_self ..)).cell; have z0 := zc 0; clear zc; simp only [anc, List.getElem?_toArray, List.getElem?_cons_zero, List.getElem?_cons_succ] at z0; have zl := (GB.out.at (List.mem_cons_self ..)).lt; go_simp; go_wp2_with fail; clear z0 zl
              refine hK.out _ _ (hHeld6) (fun hHeld7 => ?_)
              clear hK K hHeld6
              try simp only [Act.put, LsA, LsB, LsC, LsD, LsE, LsF]
              refine wpAnyH_ready (rs := [12]) (by kernel_rfl) (by simp) ?_
              refine AllReadyH.cons rfl (fun K hK => ?_) AllReadyH.nil
              have HRW : Hid (Row U 4 pa l.length pc (prcs l)) := Lib.hid GB.out.prow; refine step_append_row rfl (.tmp 45) (.tmp 55) 111 111 rfl 115 i0 _ 4 48 Try.underlying111 HI.out.1 HI.out.2.1 HI.out.2.2.1 HI.out.2.2.2 rfl rfl HRW.out rfl (Src.rd 111 115 Try.underlying111 (rd_blk' (xs := prc (⟨(rtext s3 2097152).1, (rtext (rtext s3 2097152).2 2097152).1, (rnum (rtext (rtext s3 2097152).2 2097152).2).1, (rnum (rnum (rtext (rtext s3 2097152).2 2097152).2).2).1⟩ : Pr)) B3.out 4 1 rfl) (prc_one _)) (by unfold maxLen; omega) (by omega) (by omega) ?_; intro a9 c9 w9 hr9 st9; have G8 : Hid (Qx 124 w w9 p (rnum (rnum (rtext (rtext s3 2097152).2 2097152).2).2).2 ((ob, 113, #[.slice pa l.length pc, .bool false, .int .i64 0]) :: (ab, 54, (anc ⟨c0, q0, e0, r0, y0, [], []⟩ (.slice oa m.length oc)).toArray) :: (rb, 54, anZ7) :: []) m oa oc (l ++ [(⟨(rtext s3 2097152).1, (rtext (rtext s3 2097152).2 2097152).1, (rnum (rtext (rtext s3 2097152).2 2097152).2).1, (rnum (rnum (rtext (rtext s3 2097152).2 2097152).2).2).1⟩ : Pr)]) a9 c9) := Lib.hid (GB.out.growP st9 hr9); clear hr9 st9; have zb := G8.out.at (List.mem_cons_self ..); have zf := zb.frozen 0; have zl := zb.lt; clear zb
              refine hK.out _ _ (Lib.hid (G8.out.at (List.mem_cons_self ..)).lt) (fun hHeld8 => ?_)
              clear hK K hHeld7
              try simp only [Act.put, LsA, LsB, LsC, LsD, LsE, LsF]
              refine wpAnyH_take (i := 13) (v := ?_) rfl (by kernel_rfl) (by kernel_rfl) (by kernel_rfl) (fun _ _ _ h => h) (Or.inl ⟨by rfl, ?_⟩) hHeld8 ?_
              rotate_left
              ·intro w hSw1
               try dsimp only at hSw1
               go_simp
               try (with_reducible rfl)
              try simp only [Act.put, LsA, LsB, LsC, LsD, LsE, LsF]
              refine wpAnyH_ready (rs := [14]) (by kernel_rfl) (by simp) ?_
              refine AllReadyH.cons rfl (fun K hK => ?_) AllReadyH.nil
              have zc0 := (G8.out.at (List.mem_cons_self ..)).cell 0; simp only [List.getElem?_toArray, List.getElem?_cons_zero] at zc0; go_simp; go_wp2_with fail; clear zc0
              refine hK.out _ _ (Lib.hid (by simpa using zl)) (fun hHeld9 => ?_)
              clear hK K hHeld8
              try simp only [Act.put, LsA, LsB, LsC, LsD, LsE, LsF]
              refine wpAnyH_done (by kernel_rfl) ?_ _
              clear zf zl
              obtain ⟨U9, hU9⟩ : ∃ U9, U9 = (w9.setCell ⟨ob, 0, none⟩ (.slice a9 (l.length + 1) c9)) := ⟨_, rfl⟩
              have G9 : Hid (Qx 124 w U9 p (rnum (rnum (rtext (rtext s3 2097152).2 2097152).2).2).2 ((ob, 113, #[.slice a9 (l ++ [(⟨(rtext s3 2097152).1, (rtext (rtext s3 2097152).2 2097152).1, (rnum (rtext (rtext s3 2097152).2 2097152).2).1, (rnum (rnum (rtext (rtext s3 2097152).2 2097152).2).2).1⟩ : Pr)]).length c9, .bool false, .int .i64 0]) :: (ab, 54, (anc ⟨c0, q0, e0, r0, y0, [], []⟩ (.slice oa m.length oc)).toArray) :: (rb, 54, anZ7) :: []) m oa oc (l ++ [(⟨(rtext s3 2097152).1, (rtext (rtext s3 2097152).2 2097152).1, (rnum (rtext (rtext s3 2097152).2 2097152).2).1, (rnum (rnum (rtext (rtext s3 2097152).2 2097152).2).2).1⟩ : Pr)]) a9 c9) := Lib.hid (by rw [hU9]; have hq := Qx.put (K1 := []) G8.out ((Step.refl [ob] w9).setCell (.inl (by simp)) _) ((G8.out.at (List.mem_cons_self ..)).set 0 (.slice a9 (l.length + 1) c9)); simpa using hq)
              rw [← hU9]
              clear hU9 G8 GB B3
              go_wp2_with fail
              go_roundw
              case rel => exact ⟨k, l ++ [(⟨(rtext s3 2097152).1, (rtext (rtext s3 2097152).2 2097152).1, (rnum (rtext (rtext s3 2097152).2 2097152).2).1, (rnum (rnum (rtext (rtext s3 2097152).2 2097152).2).2).1⟩ : Pr)], a9, c9, (rnum (rnum (rtext (rtext s3 2097152).2 2097152).2).2).2, by omega, by rw [List.length_append, List.length_singleton]; omega, by intro hb; rcases HLP.out with g | g; (exfalso; have e0 : (rnum (rnum (rtext (rtext s3 2097152).2 2097152).2).2).2 = rfail := g; rw [e0] at hb; simp [rfail] at hb); (have e0 : (rnum (rnum (rtext (rtext s3 2097152).2 2097152).2).2).2.s.length < s3.s.length := g; simp; omega), by go_num, Lib.hid ⟨G9.out, HSp.out⟩⟩
              case measure => first | (simp [intOf]; done) | (simp [intOf]; omega)
     case rest =>
      rename World => Y
      obtain ⟨l, pa, pc, HY⟩ := hcut
      have P0 := Lib.hid HY.out.1
      have HL2 := Lib.hid HY.out.2
      clear HY HC H3
      go_wp2_with fail
      refine (qd_flag P0.out).mono ?_
      rintro e X18 ⟨rfl, t⟩
      have H18 := Lib.hid t
      clear t
      go_wp2_with fail
      refine (qd_num H18.out).mono ?_
      rintro e X19 ⟨rfl, t⟩
      have H19 := Lib.hid t
      clear t
      have zc := (H19.out.at (List.mem_cons_self ..)).cell
      have z1 := zc 1
      have z2 := zc 2
      clear zc
      simp only [List.getElem?_nil, List.getElem?_toArray, List.getElem?_cons_zero, List.getElem?_cons_succ] at z1 z2
      have zl := (H19.out.at (List.mem_cons_self ..)).lt
      have zf1 := (H19.out.at (List.mem_cons_self ..)).frozen 1
      have zf2 := (H19.out.at (List.mem_cons_self ..)).frozen 2
      go_upto_region 12 with fail
      obtain ⟨Z1, hZ1⟩ : ∃ Z, Z = (X19.setCell ⟨ob, 1, none⟩ (.bool (rflag R2.2).1)).setCell ⟨ob, 2, none⟩ (.int .i64 (rnum (rflag R2.2).2).1) := ⟨_, rfl⟩
      have P3 : Hid (Qx 124 w Z1 p (rnum (rflag R2.2).2).2 ((ob, 113, #[.slice pa l.length pc, .bool (rflag R2.2).1, .int .i64 (rnum (rflag R2.2).2).1]) :: (ab, 54, (anc ⟨c0, q0, e0, r0, y0, [], []⟩ (.slice oa m.length oc)).toArray) :: (rb, 54, anZ7) :: []) m oa oc l pa pc) := Lib.hid (by rw [hZ1]; have hq := Qx.put (K1 := []) H19.out (((Step.refl [ob] X19).setCell (.inl (by simp)) _).setCell (.inl (by simp)) _) (((H19.out.at (List.mem_cons_self ..)).set 1 (.bool (rflag R2.2).1)).set 2 (.int .i64 (rnum (rflag R2.2).2).1)); simpa using hq)
      rw [← hZ1]
      clear hZ1 H18 H19 z1 z2 zl zf1 zf2
      obtain ⟨fl, hfl⟩ : ∃ b, b = (rflag R2.2).1 := ⟨_, rfl⟩
      obtain ⟨ct, hct⟩ : ∃ b, b = (rnum (rflag R2.2).2).1 := ⟨_, rfl⟩
      obtain ⟨s9, hs9⟩ : ∃ b, b = (rnum (rflag R2.2).2).2 := ⟨_, rfl⟩
      rw [← hfl, ← hct, ← hs9] at P3
      have HEQ : Hid (otR stopP 2097152 st1 = (⟨l, fl, ct⟩, s9)) := Lib.hid (by rw [hfl, hct, hs9, HL2.out, HR2.out]; rfl)
      clear hfl hct hs9
      have HOM : Hid (Qx 124 w Z1 p s9 ((ob, 113, (omc ⟨⟨l, fl, ct⟩, pa, pc⟩).toArray) :: (ab, 54, (anc ⟨c0, q0, e0, r0, y0, [], []⟩ (.slice oa m.length oc)).toArray) :: (rb, 54, anZ7) :: []) m oa oc l pa pc) := Lib.hid P3.out
      have jjc := (HOM.out.at (List.mem_cons_self ..)).cell
      have jj0 := jjc 0
      have jj1 := jjc 1
      have jj2 := jjc 2
      clear jjc
      simp only [omc, List.getElem?_toArray, List.getElem?_cons_zero, List.getElem?_cons_succ] at jj0 jj1 jj2
      have jjl := (HOM.out.at (List.mem_cons_self ..)).lt
      have mc := (HOM.out.at (List.mem_cons_of_mem _ (List.mem_cons_self ..))).cell
      have m5 := mc 5
      clear mc
      simp only [anc, List.getElem?_toArray, List.getElem?_cons_zero, List.getElem?_cons_succ] at m5
      have ml := (HOM.out.at (List.mem_cons_of_mem _ (List.mem_cons_self ..))).lt
      have mf5 := (HOM.out.at (List.mem_cons_of_mem _ (List.mem_cons_self ..))).frozen 5
      obtain ⟨nb, hnb⟩ : ∃ nb, nb = Z1.heap.size := ⟨_, rfl⟩
      obtain ⟨U, hU⟩ : ∃ U, U = Z1.alloc (.cells (omc ⟨⟨l, fl, ct⟩, pa, pc⟩).toArray 113) := ⟨_, rfl⟩
      have HRW : Hid (Qx 124 w U p s9 ((ob, 113, (omc ⟨⟨l, fl, ct⟩, pa, pc⟩).toArray) :: (ab, 54, (anc ⟨c0, q0, e0, r0, y0, [], []⟩ (.slice oa m.length oc)).toArray) :: (rb, 54, anZ7) :: []) m oa oc l pa pc ∧ Rd U 3 (some ⟨nb, 0, none⟩) 1 (omcs [(⟨⟨l, fl, ct⟩, pa, pc⟩ : Om)])) := Lib.hid (by rw [hU, hnb]; exact ⟨HOM.out.quiet ((Step.refl [] _).alloc _), rd_blk' (xs := omcs [(⟨⟨l, fl, ct⟩, pa, pc⟩ : Om)]) (by simpa [omcs] using Blk.new Z1 113 (omc ⟨⟨l, fl, ct⟩, pa, pc⟩).toArray) 3 1 rfl⟩)
      have HRI : Hid (Row U 3 oa m.length oc (omcs m)) := Lib.hid HRW.out.1.orow
      have HNB := Lib.hid hnb
      have HU := Lib.hid hU
      clear hnb hU
      go_upto_region 5 with (at_builtin; rw [show Z1.heap.size = nb from HNB.out.symm, show Z1.alloc (.cells #[.slice pa l.length pc, .bool fl, .int .i64 ct] 113) = U from HU.out.symm]; refine wpList_append_row rfl (.tmp 65) (.tmp 67) 52 52 rfl 113 i1 _ 3 40 Try.underlying52 HI1.out.1 HI1.out.2.1 HI1.out.2.2.1 HI1.out.2.2.2 rfl rfl HRI.out rfl (Src.rd 52 113 Try.underlying52 HRW.out.2 (omcs_one _)) (by unfold maxLen; omega) (by omega) (by omega) ?_; intro a9 c9 w9 hr9 st9; have G8 : Hid (Qx 124 w w9 p s9 ((ab, 54, (anc ⟨c0, q0, e0, r0, y0, [], []⟩ (.slice oa m.length oc)).toArray) :: (rb, 54, anZ7) :: []) (m ++ [(⟨⟨l, fl, ct⟩, pa, pc⟩ : Om)]) a9 c9 [] none 0) := Lib.hid (HRW.out.1.growO st9 hr9).drop; clear hr9 st9 m5 ml mf5; have zb := G8.out.at (List.mem_cons_self ..); have zf := zb.frozen 5; have zl := zb.lt; have zc := zb.cell 5; clear zb; simp only [anc, List.getElem?_toArray, List.getElem?_cons_zero, List.getElem?_cons_succ] at zc)
      clear zc zl zf jj0 jj1 jj2 jjl
      obtain ⟨U9, hU9⟩ : ∃ U9, U9 = w9.setCell ⟨ab, 5, none⟩ (.slice a9 (m.length + 1) c9) := ⟨_, rfl⟩
      have G9 : Hid (Qx 124 w U9 p s9 ((ab, 54, (anc ⟨c0, q0, e0, r0, y0, [], []⟩ (.slice a9 (m ++ [(⟨⟨l, fl, ct⟩, pa, pc⟩ : Om)]).length c9)).toArray) :: (rb, 54, anZ7) :: []) (m ++ [(⟨⟨l, fl, ct⟩, pa, pc⟩ : Om)]) a9 c9 [] none 0) := Lib.hid (by rw [hU9]; have hq := Qx.put (K1 := []) G8.out ((Step.refl [ab] w9).setCell (.inl (by simp)) _) ((G8.out.at (List.mem_cons_self ..)).set 5 (.slice a9 (m.length + 1) c9)); simpa [anc] using hq)
      rw [← hU9]
      clear hU9 G8 HRW HRI HNB HU HOM P3 P0
      go_wp2_with fail
      go_roundw
      case rel => exact ⟨r, m ++ [(⟨⟨l, fl, ct⟩, pa, pc⟩ : Om)], a9, c9, s9, by omega, by rw [List.length_append, List.length_singleton]; omega, by intro hb; rcases HLS.out with g | g; (exfalso; rw [HEQ.out] at g; simp only at g; rw [g] at hb; simp [rfail] at hb); (rw [HEQ.out] at g; simp only at g; simp; omega), by go_num, Lib.hid ⟨G9.out, by have h := HSt.out; rw [HEQ.out] at h; rw [List.map_append]; exact h⟩⟩
      case measure => first | (simp [intOf]; done) | (simp [intOf]; omega)
 case rest =>
  rename World => Y
  obtain ⟨m, oa, oc, HY⟩ := hcut
  have H0 := Lib.hid HY.out.1
  have HFF : Hid (m.map (·.o) = x.outs ∧ (⟨c0, q0, e0, r0, y0, m.map (·.o), (rtext R.2 2097152).1⟩, (rtext R.2 2097152).2) = (x, sf)) := Lib.hid (by have h := HF.out; unfold tailA at h; rw [← HRR.out, ← HY.out.2] at h; exact ⟨by rw [← (Prod.mk.inj h).1], h⟩)
  rename ∀ (a : Act) (w : World), Code.wp _ _ _ a w → _ => hK
  refine hK _ _ ?_
  exact ad4 HR HFF (Lib.hid HFF.out.1) H0
end
set_option maxHeartbeats 16000000 in
theorem decodeA_any (s : List UInt8) (w : World) (hs : s.length ≤ 1099511627776) : Calls Try.prog 40 #[Str s] w (DecAP s w) := by
 have HS := Lib.hid hs
 clear hs
 go_enter Try.func40, Try.ntmps40
 go_wp2_with fail
 refine (read_any s _).mono ?_
 rintro e w1 ⟨rfl, rfl⟩
 go_upto_region 2 with fail
 obtain ⟨rb, hrb⟩ : ∃ b, b = w.heap.size := ⟨_, rfl⟩
 obtain ⟨p, hp⟩ : ∃ b, b = rb + 1 := ⟨_, rfl⟩
 obtain ⟨V0, hV0⟩ : ∃ V, V = (w.alloc (.cells anZ7 54)).alloc (.cells #[Str s, .bool false] 124) := ⟨_, rfl⟩
 have H0 : Hid (Qx 124 w V0 p (⟨s, false⟩ : RS) ((rb, 54, anZ7) :: []) [] none 0 [] none 0) := Lib.hid (by
  have e1 : (w.alloc (.cells anZ7 54)).heap.size = w.heap.size + 1 := by simp
  have b1 := Blk.new (w.alloc (.cells anZ7 54)) 124 #[Str s, .bool false]
  have b0 := (Blk.new w 54 anZ7).alloc (.cells #[Str s, .bool false] 124)
  rw [e1] at b1
  rw [hV0, hp, hrb]
  refine ⟨b1, ((Step.refl [] w).alloc _).alloc _, by omega, fun q hq => ?_, by simp, Row.none _ 3, by simp [blks], by simp, by simp, Row.none _ 4, by simp [blks], HS.out, by simp⟩
  simp only [List.mem_cons, List.mem_nil_iff, or_false] at hq
  subst hq
  exact ⟨b0, by simp only; omega, by simp only; omega⟩)
 first
  | rw [← hrb, ← hp, ← hV0]
  | (rw [show (w.alloc (.cells #[.int .i64 0, .int .i64 0, .int .i64 0, .int .i64 0, .bool false, .slice none 0 0, .string ⟨#[]⟩] 54)).alloc (.cells #[.string ⟨s.toArray⟩, .bool false] 124) = V0 from hV0.symm]; rw [← hrb, ← hp])
 clear hV0 hrb hp
 go_cut [5] (fun v wx => ∃ ab, v = .pointer (some ⟨ab, 0, none⟩) ∧ Hid (Qx 124 w wx p (rflag (rnum (upto (rnum (rnum (⟨s, false⟩ : RS)).2).2 255).2).2).2 ((ab, 54, (anc (⟨(rnum (⟨s, false⟩ : RS)).1, (rnum (rnum (⟨s, false⟩ : RS)).2).1, (upto (rnum (rnum (⟨s, false⟩ : RS)).2).2 255).1, (rnum (upto (rnum (rnum (⟨s, false⟩ : RS)).2).2 255).2).1, (rflag (rnum (upto (rnum (rnum (⟨s, false⟩ : RS)).2).2 255).2).2).1, [], []⟩ : An) (.slice none 0 0)).toArray) :: (rb, 54, anZ7) :: []) [] none 0 [] none 0))
 case first =>
  go_wp2_with fail
  refine (qd_num H0.out).mono ?_
  rintro e X20 ⟨rfl, t⟩
  have H20 := Lib.hid t
  clear t
  go_wp2_with fail
  refine (qd_num H20.out).mono ?_
  rintro e X21 ⟨rfl, t⟩
  have H21 := Lib.hid t
  clear t
  go_wp2_with fail
  refine (qd_upto H21.out 255).mono ?_
  rintro e X22 ⟨rfl, t⟩
  have H22 := Lib.hid t
  clear t
  go_wp2_with fail
  refine (qd_num H22.out).mono ?_
  rintro e X23 ⟨rfl, t⟩
  have H23 := Lib.hid t
  clear t
  go_wp2_with fail
  refine (qd_flag H23.out).mono ?_
  rintro e X24 ⟨rfl, t⟩
  have H24 := Lib.hid t
  clear t
  go_wp2_with fail
  go_meet
  exact ⟨_, rfl, Lib.hid (H24.out.push _ _)⟩
 case rest =>
  rename World => Y
  obtain ⟨ab, rfl, HY⟩ := hcut
  rename ∀ (a : Act) (w : World), Code.wp _ _ _ a w → _ => hK
  refine hK _ _ ?_
  exact ad3 (x := (readA stopP 2097152 ⟨s, false⟩).1) (sf := (readA stopP 2097152 ⟨s, false⟩).2) (Lib.hid rfl) (Lib.hid rfl) HY
end Go.Proofs.Ytjfaplmojpldhaa
