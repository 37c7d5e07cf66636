/-
 The reference's ReadAnswer: the answer of bytes. Condition: at most 2097152 bytes.
-/
import Derived.Test.YtjfaplmojpldhaaZAnsRef
import Derived.Test.YtjfaplmojpldhaaZAnsDec
namespace Go.Proofs.Ytjfaplmojpldhaa
open Go.RowKit
set_option linter.unusedSimpArgs false
set_option linter.unusedVariables false
set_option maxRecDepth 100000

def RefDAP (s : List UInt8) (x : An) (sf : RS) (w : World) (e : Ending) (w' : World) : Prop :=
 Step [] [] w w' ∧ ((rend sf = 0 ∧ refAB x = (s, 0) ∧ ∃ m a c, e = .returned (.tuple #[anV x (.slice a m.length c), .bool true]) ∧ m.map (·.o) = x.outs ∧ RdO w' a m ∧ FreshO w a m) ∨ (¬ (rend sf = 0 ∧ refAB x = (s, 0)) ∧ e = .returned (.tuple #[.agg anZ7, .bool false])))
section
variable {w0 w w' : World} {p : Nat} {st : RS} {K : List (Nat × TypeId × Array Value)} {m : List Om} {oa : Option Addr} {oc : Nat} {l : List Pr} {pa : Option Addr} {pc : Nat}
theorem qr_upto (h : Qx 91 w0 w p st K m oa oc l pa pc) (n : Int) : Calls Try.prog 36 #[.pointer (some ⟨p, 0, none⟩), .int .i64 n] w fun e w' => e = .returned (.int .i64 (upto st n).1) ∧ Qx 91 w0 w' p (upto st n).2 K m oa oc l pa pc := by
 refine (refNum_any p st n w h.rdr (by have := h.len; omega)).mono ?_
 rintro e w' ⟨he, g, k⟩
 exact ⟨he, h.read g k (upto_len st _)⟩
theorem qr_text (h : Qx 91 w0 w p st K m oa oc l pa pc) (n : Int) : Calls Try.prog 43 #[.pointer (some ⟨p, 0, none⟩), .int .i64 n] w fun e w' => e = .returned (Str (rtext st n).1) ∧ Qx 91 w0 w' p (rtext st n).2 K m oa oc l pa pc := by
 refine (refText_any p st n w h.rdr (by have := h.len; omega)).mono ?_
 rintro e w' ⟨he, g, k⟩
 exact ⟨he, h.read g k (rtext_len3 st _)⟩
theorem qr_flag (h : Qx 91 w0 w p st K m oa oc l pa pc) : Calls Try.prog 42 #[.pointer (some ⟨p, 0, none⟩)] w fun e w' => e = .returned (.bool (rflag st).1) ∧ Qx 91 w0 w' p (rflag st).2 K m oa oc l pa pc := by
 refine (refFlag_any p st w h.rdr (by have := h.len; omega)).mono ?_
 rintro e w' ⟨he, g, k⟩
 exact ⟨he, h.read g k (upto_len st _)⟩
end
section
variable {u0 u1 u2 u3 u4 u5 u6 u7 u8 u9 u10 u11 u12 u13 u14 u15 u16 u17 u18 u19 u20 u21 u22 u23 u24 u25 u26 u27 u28 u29 u30 u31 u32 u33 u34 u35 u36 u37 u38 u39 u40 u41 u42 u43 u44 u45 u46 u47 u48 u49 u50 u51 u52 u53 u54 u55 u56 u57 u58 u59 u60 u61 u62 u63 u64 u65 u66 u67 u68 u69 u70 u71 u72 u73 u74 u75 u76 u77 u78 u79 u80 u81 u82 u83 u84 u85 u86 u87 u88 u89 u90 u91 u92 u93 u94 u95 u96 u97 u98 u99 u100 u101 u102 u103 u104 u105 u106 u107 u108 u109 u110 u111 u112 u113 u114 : Value}
set_option maxHeartbeats 16000000 in
theorem rd5 {s : List UInt8} {w V : World} {p ab rb : Nat} {c0 q0 e0 r0 : Int} {y0 : Bool} {sf : RS} {x : An} {m : List Om} {oa : Option Addr} {oc : Nat} {tk : List UInt8} (HSM : Hid (SmA x)) (HX : Hid (⟨c0, q0, e0, r0, y0, x.outs, tk⟩ = x)) (HO : Hid (m.map (·.o) = x.outs)) (H : Hid (Qx 91 w V p sf ((ab, 54, (anc ⟨c0, q0, e0, r0, y0, x.outs, tk⟩ (.slice oa m.length oc)).toArray) :: (rb, 54, anZ7) :: []) m oa oc [] none 0)) :
  Code.wp Try.prog (dright 11 (Try.f20.body.getD .skip)) (bodyPost Try.prog Try.f20 (RefDAP s x sf w)) { tmps := #[Str s, u1, .pointer (some ⟨rb, 0, none⟩), u3, .pointer (some ⟨p, 0, none⟩), .pointer (some ⟨ab, 0, none⟩), u6, u7, u8, u9, u10, u11, u12, u13, u14, u15, u16, u17, u18, u19, u20, u21, u22, u23, u24, u25, u26, u27, u28, u29, u30, u31, u32, u33, u34, u35, u36, u37, u38, u39, u40, u41, u42, u43, u44, u45, u46, u47, u48, u49, u50, u51, u52, u53, u54, u55, u56, u57, u58, u59, u60, u61, u62, u63, u64, u65, u66, u67, u68, u69, u70, u71, u72, u73, u74, u75, u76, u77, u78, u79, u80, u81, u82, u83, u84, u85, u86, u87, u88, u89, u90, u91, u92, u93, u94, u95, u96, u97, u98, u99, u100, u101, u102, u103, u104, u105, u106, u107, u108, u109, u110, u111, u112, u113, u114], defers := [] } V := by
 conv => arg 2; whnf
 dsimp only
 have H1 : Hid (Qx 91 w V p sf ((ab, 54, (anc x (.slice oa m.length oc)).toArray) :: (rb, 54, anZ7) :: []) m oa oc [] none 0) := Lib.hid (by have h := H.out; rw [← HX.out]; exact h)
 clear H
 have HRB := Lib.hid (H1.out.blk _ (List.mem_cons_of_mem _ (List.mem_cons_self ..))).2.2
 go_wp2_with (refine wpList_loadRow (T := 54) (b := ab) (T' := 54) (cs := (anc x (.slice oa m.length oc)).toArray) rfl (.tmp 5) rfl rfl Try.sAns (H1.out.at (List.mem_cons_self ..)) ?_)
 refine (ransB_any x m oa oc V H1.out.rdo HO.out HSM.out.bd HSM.out.ln HSM.out.nn HSM.out.it).mono ?_
 rintro e X1 ⟨rfl, kk⟩
 have H2 := Lib.hid (H1.out.quiet kk)
 clear kk H1
 obtain ⟨⟨t, e⟩, hte⟩ : ∃ q, q = refAB x := ⟨_, rfl⟩
 rw [← hte]
 have HTE : Hid (refAB x = (t, e)) := Lib.hid hte.symm
 clear hte
 go_wp2_with fail
 refine (refDone_any p sf X1 H2.out.rdr (by have := H2.out.len; omega)).mono ?_
 rintro q W9 ⟨rfl, rfl⟩
 by_cases hz : rend sf = 0
 ·have hzb : (rend sf == 0) = true := by simp [hz]
  have HZR := Lib.hid hz
  clear hz
  by_cases he : e = 0
  ·subst he
   by_cases hts : t = s
   ·subst hts
    go_wp2_with (first | (refine wpList_loadRow (T := 54) (b := ab) (T' := 54) (cs := (anc x (.slice oa m.length oc)).toArray) rfl (.tmp 5) rfl rfl Try.sAns (H2.out.at (List.mem_cons_self ..)) ?_) | (refine wpList_storeRow (T := 54) (b := rb) (T' := 54) (cs := anZ7) (vs := (anc x (.slice oa m.length oc)).toArray) rfl (.tmp 2) (.tmp 114) rfl rfl rfl Try.sAns (H2.out.at (List.mem_cons_of_mem _ (List.mem_cons_self ..))) rfl (anc_one _ _ rfl) ?_; intro U ub uk))
    exact bodyPost_ret (res_row2 (T := 54) (cs := (anc x (.slice oa m.length oc)).toArray) (p := 2) (u := 3) rfl _ rfl Try.sAns ub) rfl ⟨H2.out.out.own uk HRB.out, .inl ⟨HZR.out, HTE.out, m, oa, oc, rfl, HO.out, H2.out.own (List.mem_cons_of_mem _ (List.mem_cons_self ..)) uk, H2.out.freshO⟩⟩
   ·have htn : (t == s) = false := by simpa using hts
    have HTS := Lib.hid hts
    clear hts
    have HNO : Hid (¬ (rend sf = 0 ∧ refAB x = (s, 0))) := Lib.hid (by intro h; rw [HTE.out] at h; exact HTS.out (Prod.mk.inj h.2).1)
    go_wp2_with (refine wpList_storeRow (T := 54) (b := rb) (T' := 54) (cs := anZ7) (vs := anZ7) rfl (.tmp 2) (.tmp 113) rfl rfl rfl Try.sAns (H2.out.at (List.mem_cons_of_mem _ (List.mem_cons_self ..))) rfl anZ7_one ?_; intro U ub uk)
    exact bodyPost_ret (res_row2 (T := 54) (cs := anZ7) (p := 2) (u := 3) rfl _ rfl Try.sAns ub) rfl ⟨H2.out.out.own uk HRB.out, .inr ⟨HNO.out, rfl⟩⟩
  ·have hen : (e != 0) = true := by simpa using he
   have HEN := Lib.hid he
   clear he
   have HNO : Hid (¬ (rend sf = 0 ∧ refAB x = (s, 0))) := Lib.hid (by intro h; rw [HTE.out] at h; exact HEN.out (Prod.mk.inj h.2).2)
   go_wp2_with (refine wpList_storeRow (T := 54) (b := rb) (T' := 54) (cs := anZ7) (vs := anZ7) rfl (.tmp 2) (.tmp 113) rfl rfl rfl Try.sAns (H2.out.at (List.mem_cons_of_mem _ (List.mem_cons_self ..))) rfl anZ7_one ?_; intro U ub uk)
   exact bodyPost_ret (res_row2 (T := 54) (cs := anZ7) (p := 2) (u := 3) rfl _ rfl Try.sAns ub) rfl ⟨H2.out.out.own uk HRB.out, .inr ⟨HNO.out, rfl⟩⟩
 ·have hzb : (rend sf == 0) = false := by simpa using hz
  have HZR := Lib.hid hz
  clear hz
  have HNO : Hid (¬ (rend sf = 0 ∧ refAB x = (s, 0))) := Lib.hid (by exact fun h => HZR.out h.1)
  go_wp2_with (refine wpList_storeRow (T := 54) (b := rb) (T' := 54) (cs := anZ7) (vs := anZ7) rfl (.tmp 2) (.tmp 113) rfl rfl rfl Try.sAns (H2.out.at (List.mem_cons_of_mem _ (List.mem_cons_self ..))) rfl anZ7_one ?_; intro U ub uk)
  exact bodyPost_ret (res_row2 (T := 54) (cs := anZ7) (p := 2) (u := 3) rfl _ rfl Try.sAns ub) rfl ⟨H2.out.out.own uk HRB.out, .inr ⟨HNO.out, rfl⟩⟩
set_option maxHeartbeats 16000000 in
theorem rd4 {s : List UInt8} {w V : World} {p ab rb : Nat} {c0 q0 e0 r0 : Int} {y0 : Bool} {st sf : RS} {x : An} {m : List Om} {oa : Option Addr} {oc : Nat} (HSM : Hid (SmA x)) (HF : Hid (m.map (·.o) = x.outs ∧ (⟨c0, q0, e0, r0, y0, m.map (·.o), (rtext st mostN).1⟩, (rtext st mostN).2) = (x, sf))) (HO : Hid (m.map (·.o) = x.outs)) (H : Hid (Qx 91 w V p st ((ab, 54, (anc ⟨c0, q0, e0, r0, y0, [], []⟩ (.slice oa m.length oc)).toArray) :: (rb, 54, anZ7) :: []) m oa oc [] none 0)) :
  Code.wp Try.prog (dright 10 (Try.f20.body.getD .skip)) (bodyPost Try.prog Try.f20 (RefDAP s x sf w)) { tmps := #[Str s, u1, .pointer (some ⟨rb, 0, none⟩), u3, .pointer (some ⟨p, 0, none⟩), .pointer (some ⟨ab, 0, none⟩), u6, u7, u8, u9, u10, u11, u12, u13, u14, u15, u16, u17, u18, u19, u20, u21, u22, u23, u24, u25, u26, u27, u28, u29, u30, u31, u32, u33, u34, u35, u36, u37, u38, u39, u40, u41, u42, u43, u44, u45, u46, u47, u48, u49, u50, u51, u52, u53, u54, u55, u56, u57, u58, u59, u60, u61, u62, u63, u64, u65, u66, u67, u68, u69, u70, u71, u72, u73, u74, u75, u76, u77, u78, u79, u80, u81, u82, u83, u84, u85, u86, u87, u88, u89, u90, u91, u92, u93, u94, u95, u96, u97, u98, u99, u100, u101, u102, u103, u104, u105, u106, u107, u108, u109, u110, u111, u112, u113, u114], defers := [] } V := by
 conv => arg 2; whnf
 dsimp only
 go_upto_region 26 with fail
 have HXT : Hid (⟨c0, q0, e0, r0, y0, x.outs, (rtext st mostN).1⟩ = x ∧ (rtext st mostN).2 = sf) := Lib.hid (by have h := HF.out.2; rw [HF.out.1] at h; obtain ⟨h1, h2⟩ := Prod.mk.inj h; exact ⟨by rw [← h1], h2⟩)
 go_cut [] (fun wx => Hid (Qx 91 w wx p (rtext st mostN).2 ((ab, 54, (anc ⟨c0, q0, e0, r0, y0, x.outs, (rtext st mostN).1⟩ (.slice oa m.length oc)).toArray) :: (rb, 54, anZ7) :: []) m oa oc [] none 0))
 case first =>
  go_wp2_with fail
  refine (qr_text H.out mostN).mono ?_
  rintro e X1 ⟨rfl, t⟩
  have H1 := Lib.hid t
  clear t
  have fc := (H1.out.at (List.mem_cons_self ..)).cell
  have f6 := fc 6
  clear fc
  simp only [anc, List.getElem?_toArray, List.getElem?_cons_zero, List.getElem?_cons_succ] at f6
  have fl := (H1.out.at (List.mem_cons_self ..)).lt
  have ff6 := (H1.out.at (List.mem_cons_self ..)).frozen 6
  go_wp2_with fail
  go_meet
  exact Lib.hid (Qx.put (K1 := []) H1.out ((Step.refl [ab] X1).setCell (.inl (by simp)) _) (by have hq := (H1.out.at (List.mem_cons_self ..)).set 6 (Str (rtext st mostN).1); simpa [anc] using hq))
 case rest =>
  rename World => Y
  have HY := hcut
  rw [HXT.out.2] at HY
  rename ∀ (a : Act) (w : World), Code.wp _ _ _ a w → _ => hK
  refine hK _ _ ?_
  exact rd5 HSM (Lib.hid HXT.out.1) HO HY
set_option maxHeartbeats 16000000 in
theorem rd3 {s : List UInt8} {w V : World} {p ab rb : Nat} {c0 q0 e0 r0 : Int} {y0 : Bool} {sf : RS} {x : An} {N : Nat} {s0 : RS} {R : List Ot × RS} (HSM : Hid (SmA x)) (HN8 : Hid (N ≤ 4611686018427387903)) (HR0 : Hid (otsR stopR mostN (N - 0) [] s0 = R)) (HF : Hid ((⟨c0, q0, e0, r0, y0, R.1, (rtext R.2 mostN).1⟩, (rtext R.2 mostN).2) = (x, sf))) (H : Hid (Qx 91 w V p s0 ((ab, 54, (anc ⟨c0, q0, e0, r0, y0, [], []⟩ (.slice none 0 0)).toArray) :: (rb, 54, anZ7) :: []) [] none 0 [] none 0)) :
  Code.wp Try.prog (dright 9 (Try.f20.body.getD .skip)) (bodyPost Try.prog Try.f20 (RefDAP s x sf w)) { tmps := #[Str s, u1, .pointer (some ⟨rb, 0, none⟩), u3, .pointer (some ⟨p, 0, none⟩), .pointer (some ⟨ab, 0, none⟩), .int .i64 (N : Int), u7, u8, u9, u10, u11, u12, u13, u14, u15, u16, u17, u18, u19, u20, u21, u22, u23, u24, u25, u26, u27, u28, u29, u30, u31, u32, u33, u34, u35, u36, u37, u38, u39, u40, u41, u42, u43, u44, u45, u46, u47, u48, u49, u50, u51, u52, u53, u54, u55, u56, u57, u58, u59, u60, u61, u62, u63, u64, u65, u66, u67, u68, u69, u70, u71, u72, u73, u74, u75, u76, u77, u78, u79, u80, u81, u82, u83, u84, u85, u86, u87, u88, u89, u90, u91, u92, u93, u94, u95, u96, u97, u98, u99, u100, u101, u102, u103, u104, u105, u106, u107, u108, u109, u110, u111, u112, u113, u114], defers := [] } V := by
 conv => arg 2; whnf
 dsimp only
 obtain ⟨i0, hi, hz0, hz1, hz2⟩ := info_parts Try.info_pair
 have HI := Lib.hid (And.intro hi (And.intro hz0 (And.intro hz1 hz2)))
 clear hi hz0 hz1 hz2
 obtain ⟨i1, hi, hz0, hz1, hz2⟩ := info_parts Try.info_out
 have HI1 := Lib.hid (And.intro hi (And.intro hz0 (And.intro hz1 hz2)))
 clear hi hz0 hz1 hz2
 obtain ⟨B, hB⟩ : ∃ B, B = s0.s.length := ⟨_, rfl⟩
 have hB8 : B ≤ 1099511627776 := by have := H.out.len; omega
 have hN9 := HN8.out
 have HC : Hid (s0.s.length ≤ B) := Lib.hid (by omega)
 clear hB
 go_upto_block 0 with fail
 go_cut [] (fun wx => ∃ (m : List Om) (oa : Option Addr) (oc : Nat), Hid (Qx 91 w wx p R.2 ((ab, 54, (anc ⟨c0, q0, e0, r0, y0, [], []⟩ (.slice oa m.length oc)).toArray) :: (rb, 54, anZ7) :: []) m oa oc [] none 0 ∧ m.map (·.o) = R.1))
 case first =>
  go_wp2_with fail
  go_loopw [7] (fun i W => ∃ (r : Nat) (m : List Om) (oa : Option Addr) (oc : Nat) (st1 : RS), r ≤ N ∧ m.length ≤ B + 1 ∧ (st1.bad = false → m.length + st1.s.length ≤ B) ∧ i = .int .i64 r ∧ Hid (Qx 91 w W p st1 ((ab, 54, (anc ⟨c0, q0, e0, r0, y0, [], []⟩ (.slice oa m.length oc)).toArray) :: (rb, 54, anZ7) :: []) m oa oc [] none 0 ∧ otsR stopR mostN (N - r) (m.map (·.o)) st1 = R)) (fun i _ => N - (intOf i).toNat)
  case atStart => exact ⟨0, [], none, 0, _, by omega, by simp, by simp; intro _; exact HC.out, rfl, H.out, HR0.out⟩
  case round =>
   clear HC H HR0
   rename World => W
   obtain ⟨r, m, oa, oc, st1, hr, hl1, hl2, rfl, HW⟩ := hrel
   have pc1 := HW.out.1.rdr.cell 1
   have pl := HW.out.1.rdr.lt
   simp only [List.getElem?_toArray, List.getElem?_cons_zero, List.getElem?_cons_succ] at pc1
   by_cases hlt : r < N
   ·have hlt' : (r : Int) < N := by omega
    cases hbd : st1.bad with
    | true =>
     rw [hbd] at pc1
     have HBD := Lib.hid hbd
     clear hbd
     have GE : Hid (Qx 91 w W p R.2 ((ab, 54, (anc ⟨c0, q0, e0, r0, y0, [], []⟩ (.slice oa m.length oc)).toArray) :: (rb, 54, anZ7) :: []) m oa oc [] none 0 ∧ m.map (·.o) = R.1) := by
      have e0 : (m.map (·.o), st1) = R := by have := HW.out.2; rwa [show N - r = N - (r + 1) + 1 by omega, otsR, if_pos (show stopR st1 = true from HBD.out)] at this
      rw [← e0]
      exact ⟨HW.out.1, rfl⟩
     clear HW
     go_wp2_with fail
     go_meet
     exact ⟨m, oa, oc, GE⟩
    | false =>
     rw [hbd] at pc1
     have HBF := Lib.hid hbd
     have hl3 := hl2 hbd
     clear hl2 hbd
     have HSt : Hid (otsR stopR mostN (N - (r + 1)) (m.map (·.o) ++ [(otR stopR mostN st1).1]) (otR stopR mostN st1).2 = R) := Lib.hid (by have := HW.out.2; rwa [show N - r = N - (r + 1) + 1 by omega, otsR, if_neg (by rw [show stopR st1 = st1.bad from rfl, HBF.out]; simp)] at this)
     have HLS : Hid ((otR stopR mostN st1).2 = rfail ∨ (otR stopR mostN st1).2.s.length < st1.s.length) := Lib.hid (otR_less stopR mostN rfl st1)
     go_upto_region 13 with fail
     clear pc1 pl
     obtain ⟨ob, hob⟩ : ∃ b, b = W.heap.size := ⟨_, rfl⟩
     obtain ⟨Y0, hY0⟩ : ∃ Y, Y = W.alloc (.cells #[.slice none 0 0, .bool false, .int .i64 0] 113) := ⟨_, rfl⟩
     have B0 : Hid (Qx 91 w Y0 p st1 ((ob, 113, #[.slice none 0 0, .bool false, .int .i64 0]) :: (ab, 54, (anc ⟨c0, q0, e0, r0, y0, [], []⟩ (.slice oa m.length oc)).toArray) :: (rb, 54, anZ7) :: []) m oa oc [] none 0) := Lib.hid (by rw [hY0, hob]; exact HW.out.1.push _ _)
     rw [← hY0]
     try rw [← hob]
     clear hY0 hob HW
     go_wp2_with fail
     refine (qr_upto B0.out mostN).mono ?_
     rintro e X2 ⟨rfl, t⟩
     have H2 := Lib.hid t
     clear t
     have hn0 := upto_nat st1 mostN
     have hn1 := uptoQ_most st1 mostN (by simp [mostN])
     have hs2 := upto_len st1 mostN
     obtain ⟨N2, hN⟩ : ∃ N : Nat, N = (rnum st1).1.toNat := ⟨_, rfl⟩
     have hN2 : (upto st1 mostN).1 = (N2 : Int) := by rw [hN]; exact (Int.toNat_of_nonneg hn0).symm
     have hN3 : N2 ≤ 4611686018427387903 := by have e : (upto st1 mostN).1 ≤ 4611686018427387903 := hn1; omega
     obtain ⟨s2, hs0⟩ : ∃ q, q = (upto st1 mostN).2 := ⟨_, rfl⟩
     have hs3 : s2.s.length ≤ st1.s.length := by rw [hs0]; exact hs2
     rw [← hs0] at H2
     obtain ⟨C, hC⟩ : ∃ C, C = s2.s.length := ⟨_, rfl⟩
     have hC8 : C ≤ 1099511627776 := by have := B0.out.len; omega
     obtain ⟨R2, hR⟩ : ∃ R, R = rdPrs stopR mostN st1 := ⟨_, rfl⟩
     have HR2 := Lib.hid hR
     have HC : Hid (prsR stopR mostN N2 [] s2 = R2 ∧ s2.s.length ≤ C) := Lib.hid ⟨by rw [hR, rdPrs, hN, hs0]; rfl, by omega⟩
     rw [hN2]
     clear hN hN2 hR hn0 hn1 hC hs2 hs3 hs0 B0
     go_upto_block 2 with fail
     go_cut [] (fun wx => ∃ (l : List Pr) (pa : Option Addr) (pc : Nat), Hid (Qx 91 w wx p R2.2 ((ob, 113, #[.slice pa l.length pc, .bool false, .int .i64 0]) :: (ab, 54, (anc ⟨c0, q0, e0, r0, y0, [], []⟩ (.slice oa m.length oc)).toArray) :: (rb, 54, anZ7) :: []) m oa oc l pa pc ∧ l = R2.1))
     case first =>
      go_wp2_with fail
      go_loopw [10] (fun i W => ∃ (k : Nat) (l : List Pr) (pa : Option Addr) (pc : Nat) (s3 : RS), k ≤ N2 ∧ l.length ≤ C + 1 ∧ (s3.bad = false → l.length + s3.s.length ≤ C) ∧ i = .int .i64 k ∧ Hid (Qx 91 w W p s3 ((ob, 113, #[.slice pa l.length pc, .bool false, .int .i64 0]) :: (ab, 54, (anc ⟨c0, q0, e0, r0, y0, [], []⟩ (.slice oa m.length oc)).toArray) :: (rb, 54, anZ7) :: []) m oa oc l pa pc ∧ prsR stopR mostN (N2 - k) l s3 = R2)) (fun i _ => N2 - (intOf i).toNat)
      case atStart => exact ⟨0, [], none, 0, _, by omega, by simp, by simp; intro _; exact HC.out.2, rfl, H2.out, HC.out.1⟩
      case round =>
       clear HC H2
       rename World => Y
       obtain ⟨k, l, pa, pc, s3, hk, hj1, hj2, rfl, HY⟩ := hrel
       have pc1 := HY.out.1.rdr.cell 1
       have pl := HY.out.1.rdr.lt
       simp only [List.getElem?_toArray, List.getElem?_cons_zero, List.getElem?_cons_succ] at pc1
       by_cases hlk : k < N2
       ·have hlk' : (k : Int) < N2 := by omega
        cases hbd : s3.bad with
        | true =>
         rw [hbd] at pc1
         have HBD := Lib.hid hbd
         clear hbd
         have GE : Hid (Qx 91 w Y p R2.2 ((ob, 113, #[.slice pa l.length pc, .bool false, .int .i64 0]) :: (ab, 54, (anc ⟨c0, q0, e0, r0, y0, [], []⟩ (.slice oa m.length oc)).toArray) :: (rb, 54, anZ7) :: []) m oa oc l pa pc ∧ l = R2.1) := by
          have e0 : (l, s3) = R2 := by have := HY.out.2; rwa [show N2 - k = N2 - (k + 1) + 1 by omega, prsR, if_pos (show stopR s3 = true from HBD.out)] at this
          rw [← e0]
          exact ⟨HY.out.1, rfl⟩
         clear HY
         go_wp2_with fail
         go_meet
         exact ⟨l, pa, pc, GE⟩
        | false =>
         rw [hbd] at pc1
         have HBG := Lib.hid hbd
         have hj3 := hj2 hbd
         clear hj2 hbd
         have HSp : Hid (prsR stopR mostN (N2 - (k + 1)) (l ++ [(prR mostN s3).1]) (prR mostN s3).2 = R2) := Lib.hid (by have := HY.out.2; rwa [show N2 - k = N2 - (k + 1) + 1 by omega, prsR, if_neg (by rw [show stopR s3 = s3.bad from rfl, HBG.out]; simp)] at this)
         have HLP : Hid ((prR mostN s3).2 = rfail ∨ (prR mostN s3).2.s.length < s3.s.length) := Lib.hid (prR_less mostN s3)
         go_upto_region 18 with fail
         clear pc1 pl
         obtain ⟨pb, hpb⟩ : ∃ b, b = Y.heap.size := ⟨_, rfl⟩
         obtain ⟨Z0, hZ0⟩ : ∃ Z, Z = Y.alloc (.cells (prc ⟨[], [], 0, 0⟩).toArray 115) := ⟨_, rfl⟩
         have E0 : Hid (Qx 91 w Z0 p s3 ((pb, 115, (prc ⟨[], [], 0, 0⟩).toArray) :: (ob, 113, #[.slice pa l.length pc, .bool false, .int .i64 0]) :: (ab, 54, (anc ⟨c0, q0, e0, r0, y0, [], []⟩ (.slice oa m.length oc)).toArray) :: (rb, 54, anZ7) :: []) m oa oc l pa pc) := Lib.hid (by rw [hZ0, hpb]; exact HY.out.1.push _ _)
         change Code.wp _ _ _ _ (Y.alloc (.cells (prc ⟨[], [], 0, 0⟩).toArray 115))
         rw [← hZ0]
         try rw [← hpb]
         clear hZ0 hpb HY
         go_wp2_with fail
         refine (qr_text E0.out mostN).mono ?_
         rintro e X3 ⟨rfl, t⟩
         have H3 := Lib.hid t
         clear t
         have zc := (H3.out.at (List.mem_cons_self ..)).cell
         have z0 := zc 0
         clear zc
         simp only [prc, List.getElem?_toArray, List.getElem?_cons_zero, List.getElem?_cons_succ] at z0
         have zl := (H3.out.at (List.mem_cons_self ..)).lt
         have zf0 := (H3.out.at (List.mem_cons_self ..)).frozen 0
         go_upto_region 19 with fail
         obtain ⟨Z1, hZ⟩ : ∃ Z, Z = (X3.setCell ⟨pb, 0, none⟩ (Str (rtext s3 mostN).1)) := ⟨_, rfl⟩
         have E1 : Hid (Qx 91 w Z1 p (rtext s3 mostN).2 ((pb, 115, (prc ⟨(rtext s3 mostN).1, [], 0, 0⟩).toArray) :: (ob, 113, #[.slice pa l.length pc, .bool false, .int .i64 0]) :: (ab, 54, (anc ⟨c0, q0, e0, r0, y0, [], []⟩ (.slice oa m.length oc)).toArray) :: (rb, 54, anZ7) :: []) m oa oc l pa pc) := Lib.hid (by rw [hZ]; exact Qx.put (K1 := []) H3.out ((Step.refl [pb] X3).setCell (.inl (by simp)) _) (by have hq := (H3.out.at (List.mem_cons_self ..)).set 0 (Str (rtext s3 mostN).1); simpa [prc] using hq))
         rw [← hZ]
         clear hZ H3 E0 z0 zl zf0
         go_wp2_with fail
         refine (qr_text E1.out mostN).mono ?_
         rintro e X4 ⟨rfl, t⟩
         have H4 := Lib.hid t
         clear t
         have zc := (H4.out.at (List.mem_cons_self ..)).cell
         have z1 := zc 1
         clear zc
         simp only [prc, List.getElem?_toArray, List.getElem?_cons_zero, List.getElem?_cons_succ] at z1
         have zl := (H4.out.at (List.mem_cons_self ..)).lt
         have zf1 := (H4.out.at (List.mem_cons_self ..)).frozen 1
         go_upto_region 20 with fail
         obtain ⟨Z2, hZ⟩ : ∃ Z, Z = (X4.setCell ⟨pb, 1, none⟩ (Str (rtext (rtext s3 mostN).2 mostN).1)) := ⟨_, rfl⟩
         have E2 : Hid (Qx 91 w Z2 p (rtext (rtext s3 mostN).2 mostN).2 ((pb, 115, (prc ⟨(rtext s3 mostN).1, (rtext (rtext s3 mostN).2 mostN).1, 0, 0⟩).toArray) :: (ob, 113, #[.slice pa l.length pc, .bool false, .int .i64 0]) :: (ab, 54, (anc ⟨c0, q0, e0, r0, y0, [], []⟩ (.slice oa m.length oc)).toArray) :: (rb, 54, anZ7) :: []) m oa oc l pa pc) := Lib.hid (by rw [hZ]; exact Qx.put (K1 := []) H4.out ((Step.refl [pb] X4).setCell (.inl (by simp)) _) (by have hq := (H4.out.at (List.mem_cons_self ..)).set 1 (Str (rtext (rtext s3 mostN).2 mostN).1); simpa [prc] using hq))
         rw [← hZ]
         clear hZ H4 E1 z1 zl zf1
         go_wp2_with fail
         refine (qr_upto E2.out mostN).mono ?_
         rintro e X5 ⟨rfl, t⟩
         have H5 := Lib.hid t
         clear t
         have zc := (H5.out.at (List.mem_cons_self ..)).cell
         have z2 := zc 2
         clear zc
         simp only [prc, List.getElem?_toArray, List.getElem?_cons_zero, List.getElem?_cons_succ] at z2
         have zl := (H5.out.at (List.mem_cons_self ..)).lt
         have zf2 := (H5.out.at (List.mem_cons_self ..)).frozen 2
         go_upto_region 21 with fail
         obtain ⟨Z3, hZ⟩ : ∃ Z, Z = (X5.setCell ⟨pb, 2, none⟩ (.int .i64 (upto (rtext (rtext s3 mostN).2 mostN).2 mostN).1)) := ⟨_, rfl⟩
         have E3 : Hid (Qx 91 w Z3 p (upto (rtext (rtext s3 mostN).2 mostN).2 mostN).2 ((pb, 115, (prc ⟨(rtext s3 mostN).1, (rtext (rtext s3 mostN).2 mostN).1, (upto (rtext (rtext s3 mostN).2 mostN).2 mostN).1, 0⟩).toArray) :: (ob, 113, #[.slice pa l.length pc, .bool false, .int .i64 0]) :: (ab, 54, (anc ⟨c0, q0, e0, r0, y0, [], []⟩ (.slice oa m.length oc)).toArray) :: (rb, 54, anZ7) :: []) m oa oc l pa pc) := Lib.hid (by rw [hZ]; exact Qx.put (K1 := []) H5.out ((Step.refl [pb] X5).setCell (.inl (by simp)) _) (by have hq := (H5.out.at (List.mem_cons_self ..)).set 2 (.int .i64 (upto (rtext (rtext s3 mostN).2 mostN).2 mostN).1); simpa [prc] using hq))
         rw [← hZ]
         clear hZ H5 E2 z2 zl zf2
         go_wp2_with fail
         refine (qr_upto E3.out mostN).mono ?_
         rintro e X6 ⟨rfl, t⟩
         have H6 := Lib.hid t
         clear t
         have zc := (H6.out.at (List.mem_cons_self ..)).cell
         have z3 := zc 3
         clear zc
         simp only [prc, List.getElem?_toArray, List.getElem?_cons_zero, List.getElem?_cons_succ] at z3
         have zl := (H6.out.at (List.mem_cons_self ..)).lt
         have zf3 := (H6.out.at (List.mem_cons_self ..)).frozen 3
         go_upto_region 22 with fail
         obtain ⟨Z4, hZ⟩ : ∃ Z, Z = (X6.setCell ⟨pb, 3, none⟩ (.int .i64 (upto (upto (rtext (rtext s3 mostN).2 mostN).2 mostN).2 mostN).1)) := ⟨_, rfl⟩
         have E4 : Hid (Qx 91 w Z4 p (upto (upto (rtext (rtext s3 mostN).2 mostN).2 mostN).2 mostN).2 ((pb, 115, (prc ⟨(rtext s3 mostN).1, (rtext (rtext s3 mostN).2 mostN).1, (upto (rtext (rtext s3 mostN).2 mostN).2 mostN).1, (upto (upto (rtext (rtext s3 mostN).2 mostN).2 mostN).2 mostN).1⟩).toArray) :: (ob, 113, #[.slice pa l.length pc, .bool false, .int .i64 0]) :: (ab, 54, (anc ⟨c0, q0, e0, r0, y0, [], []⟩ (.slice oa m.length oc)).toArray) :: (rb, 54, anZ7) :: []) m oa oc l pa pc) := Lib.hid (by rw [hZ]; exact Qx.put (K1 := []) H6.out ((Step.refl [pb] X6).setCell (.inl (by simp)) _) (by have hq := (H6.out.at (List.mem_cons_self ..)).set 3 (.int .i64 (upto (upto (rtext (rtext s3 mostN).2 mostN).2 mostN).2 mostN).1); simpa [prc] using hq))
         rw [← hZ]
         clear hZ H6 E3 z3 zl zf3
         obtain ⟨d, hd⟩ : ∃ d, d = (prR mostN s3).1 := ⟨_, rfl⟩
         obtain ⟨s9, hs9⟩ : ∃ q, q = (prR mostN s3).2 := ⟨_, rfl⟩
         have ED : Hid (Qx 91 w Z4 p s9 ((pb, 115, (prc d).toArray) :: (ob, 113, #[.slice pa l.length pc, .bool false, .int .i64 0]) :: (ab, 54, (anc ⟨c0, q0, e0, r0, y0, [], []⟩ (.slice oa m.length oc)).toArray) :: (rb, 54, anZ7) :: []) m oa oc l pa pc) := Lib.hid (by rw [hd, hs9]; exact E4.out)
         rw [← hd, ← hs9] at HSp
         rw [← hs9] at HLP
         clear hd hs9 E4
         have jjc := (ED.out.at (List.mem_cons_self ..)).cell
         have jj0 := jjc 0
         have jj1 := jjc 1
         have jj2 := jjc 2
         have jj3 := jjc 3
         clear jjc
         simp only [prc, List.getElem?_toArray, List.getElem?_cons_zero, List.getElem?_cons_succ] at jj0 jj1 jj2 jj3
         have jjl := (ED.out.at (List.mem_cons_self ..)).lt
         have mmc := (ED.out.at (List.mem_cons_of_mem _ (List.mem_cons_self ..))).cell
         have mm0 := mmc 0
         clear mmc
         simp only [List.getElem?_nil, List.getElem?_toArray, List.getElem?_cons_zero, List.getElem?_cons_succ] at mm0
         have mml := (ED.out.at (List.mem_cons_of_mem _ (List.mem_cons_self ..))).lt
         have mmf0 := (ED.out.at (List.mem_cons_of_mem _ (List.mem_cons_self ..))).frozen 0
         obtain ⟨nb, hnb⟩ : ∃ nb, nb = Z4.heap.size := ⟨_, rfl⟩
         obtain ⟨U, hU⟩ : ∃ U, U = Z4.alloc (.cells (prc d).toArray 115) := ⟨_, rfl⟩
         have HRW : Hid (Qx 91 w U p s9 ((ob, 113, #[.slice pa l.length pc, .bool false, .int .i64 0]) :: (ab, 54, (anc ⟨c0, q0, e0, r0, y0, [], []⟩ (.slice oa m.length oc)).toArray) :: (rb, 54, anZ7) :: []) m oa oc l pa pc ∧ Rd U 4 (some ⟨nb, 0, none⟩) 1 (prcs [d])) := Lib.hid (by rw [hU, hnb]; exact ⟨(ED.out.quiet ((Step.refl [] _).alloc _)).drop, rd_blk' (xs := prcs [d]) (by simpa [prcs] using Blk.new Z4 115 (prc d).toArray) 4 1 rfl⟩)
         have HRI : Hid (Row U 4 pa l.length pc (prcs l)) := Lib.hid HRW.out.1.prow
         have HNB := Lib.hid hnb
         have HU := Lib.hid hU
         clear hnb hU
         go_upto_region 16 with (at_builtin; rw [show Z4.heap.size = nb from HNB.out.symm, show Z4.alloc (.cells #[.string ⟨d.key.toArray⟩, .string ⟨d.val.toArray⟩, .int .i64 d.made, .int .i64 d.rev] 115) = U from HU.out.symm]; refine wpList_append_row rfl (.tmp 76) (.tmp 78) 111 111 rfl 115 i0 _ 4 48 Try.underlying111 HI.out.1 HI.out.2.1 HI.out.2.2.1 HI.out.2.2.2 rfl rfl HRI.out rfl (Src.rd 111 115 Try.underlying111 HRW.out.2 (prcs_one _)) (by unfold maxLen; omega) (by omega) (by omega) ?_; intro a9 c9 w9 hr9 st9; have G8 : Hid (Qx 91 w w9 p s9 ((ob, 113, #[.slice pa l.length pc, .bool false, .int .i64 0]) :: (ab, 54, (anc ⟨c0, q0, e0, r0, y0, [], []⟩ (.slice oa m.length oc)).toArray) :: (rb, 54, anZ7) :: []) m oa oc (l ++ [d]) a9 c9) := Lib.hid (HRW.out.1.growP (e := d) st9 (by simpa [prcs] using hr9)); clear hr9 st9 mm0 mml mmf0; have zb := G8.out.at (List.mem_cons_self ..); have zf := zb.frozen 0; have zl := zb.lt; have zc := zb.cell 0; clear zb; simp only [List.getElem?_toArray, List.getElem?_cons_zero] at zc)
         clear zc zl zf jj0 jj1 jj2 jj3 jjl
         obtain ⟨U9, hU9⟩ : ∃ U9, U9 = w9.setCell ⟨ob, 0, none⟩ (.slice a9 (l.length + 1) c9) := ⟨_, rfl⟩
         have G9 : Hid (Qx 91 w U9 p s9 ((ob, 113, #[.slice a9 (l ++ [d]).length c9, .bool false, .int .i64 0]) :: (ab, 54, (anc ⟨c0, q0, e0, r0, y0, [], []⟩ (.slice oa m.length oc)).toArray) :: (rb, 54, anZ7) :: []) m oa oc (l ++ [d]) a9 c9) := Lib.hid (by rw [hU9]; have hq := Qx.put (K1 := []) G8.out ((Step.refl [ob] w9).setCell (.inl (by simp)) _) ((G8.out.at (List.mem_cons_self ..)).set 0 (.slice a9 (l.length + 1) c9)); simpa using hq)
         rw [← hU9]
         clear hU9 G8 HRW HRI HNB HU ED
         go_wp2_with fail
         go_roundw
         case rel => exact ⟨k + 1, l ++ [d], a9, c9, s9, by omega, by rw [List.length_append, List.length_singleton]; omega, by intro hb; rcases HLP.out with g | g; (exfalso; rw [g] at hb; simp [rfail] at hb); (rw [List.length_append, List.length_singleton]; omega), by go_num, Lib.hid ⟨G9.out, HSp.out⟩⟩
         case measure => first | (simp [intOf]; done) | (simp [intOf]; omega)
       ·obtain rfl : k = N2 := by omega
        have hnk : ¬ (k : Int) < k := by omega
        have GE : Hid (Qx 91 w Y p R2.2 ((ob, 113, #[.slice pa l.length pc, .bool false, .int .i64 0]) :: (ab, 54, (anc ⟨c0, q0, e0, r0, y0, [], []⟩ (.slice oa m.length oc)).toArray) :: (rb, 54, anZ7) :: []) m oa oc l pa pc ∧ l = R2.1) := by
         have e0 : (l, s3) = R2 := by have := HY.out.2; rwa [Nat.sub_self, prsR] at this
         rw [← e0]
         exact ⟨HY.out.1, rfl⟩
        clear HY pc1 pl
        go_wp2_with fail
        go_meet
        exact ⟨l, pa, pc, GE⟩
     case rest =>
      rename World => Y
      obtain ⟨l, pa, pc, HY⟩ := hcut
      have P0 := Lib.hid HY.out.1
      have HL2 := Lib.hid HY.out.2
      clear HY HC H2
      go_wp2_with fail
      refine (qr_flag P0.out).mono ?_
      rintro e X7 ⟨rfl, t⟩
      have H7 := Lib.hid t
      clear t
      have zc := (H7.out.at (List.mem_cons_self ..)).cell
      have z1 := zc 1
      clear zc
      simp only [List.getElem?_nil, List.getElem?_toArray, List.getElem?_cons_zero, List.getElem?_cons_succ] at z1
      have zl := (H7.out.at (List.mem_cons_self ..)).lt
      have zf1 := (H7.out.at (List.mem_cons_self ..)).frozen 1
      go_upto_region 24 with fail
      obtain ⟨Z1, hZ1⟩ : ∃ Z, Z = X7.setCell ⟨ob, 1, none⟩ (.bool (rflag R2.2).1) := ⟨_, rfl⟩
      have P1 : Hid (Qx 91 w Z1 p (rflag R2.2).2 ((ob, 113, #[.slice pa l.length pc, .bool (rflag R2.2).1, .int .i64 0]) :: (ab, 54, (anc ⟨c0, q0, e0, r0, y0, [], []⟩ (.slice oa m.length oc)).toArray) :: (rb, 54, anZ7) :: []) m oa oc l pa pc) := Lib.hid (by rw [hZ1]; have hq := Qx.put (K1 := []) H7.out ((Step.refl [ob] X7).setCell (.inl (by simp)) _) ((H7.out.at (List.mem_cons_self ..)).set 1 (.bool (rflag R2.2).1)); simpa using hq)
      rw [← hZ1]
      clear hZ1 P0 H7 z1 zl zf1
      go_wp2_with fail
      refine (qr_upto P1.out mostN).mono ?_
      rintro e X8 ⟨rfl, t⟩
      have H8 := Lib.hid t
      clear t
      have zc := (H8.out.at (List.mem_cons_self ..)).cell
      have z2 := zc 2
      clear zc
      simp only [List.getElem?_nil, List.getElem?_toArray, List.getElem?_cons_zero, List.getElem?_cons_succ] at z2
      have zl := (H8.out.at (List.mem_cons_self ..)).lt
      have zf2 := (H8.out.at (List.mem_cons_self ..)).frozen 2
      go_upto_region 25 with fail
      obtain ⟨Z2, hZ1⟩ : ∃ Z, Z = X8.setCell ⟨ob, 2, none⟩ (.int .i64 (upto (rflag R2.2).2 mostN).1) := ⟨_, rfl⟩
      have P3 : Hid (Qx 91 w Z2 p (upto (rflag R2.2).2 mostN).2 ((ob, 113, #[.slice pa l.length pc, .bool (rflag R2.2).1, .int .i64 (upto (rflag R2.2).2 mostN).1]) :: (ab, 54, (anc ⟨c0, q0, e0, r0, y0, [], []⟩ (.slice oa m.length oc)).toArray) :: (rb, 54, anZ7) :: []) m oa oc l pa pc) := Lib.hid (by rw [hZ1]; have hq := Qx.put (K1 := []) H8.out ((Step.refl [ob] X8).setCell (.inl (by simp)) _) ((H8.out.at (List.mem_cons_self ..)).set 2 (.int .i64 (upto (rflag R2.2).2 mostN).1)); simpa using hq)
      rw [← hZ1]
      clear hZ1 P1 H8 z2 zl zf2
      obtain ⟨fl, hfl⟩ : ∃ b, b = (rflag R2.2).1 := ⟨_, rfl⟩
      obtain ⟨ct, hct⟩ : ∃ b, b = (upto (rflag R2.2).2 mostN).1 := ⟨_, rfl⟩
      obtain ⟨s9, hs9⟩ : ∃ b, b = (upto (rflag R2.2).2 mostN).2 := ⟨_, rfl⟩
      rw [← hfl, ← hct, ← hs9] at P3
      have HEQ : Hid (otR stopR mostN st1 = (⟨l, fl, ct⟩, s9)) := Lib.hid (by rw [hfl, hct, hs9, HL2.out, HR2.out]; rfl)
      clear hfl hct hs9
      have HOM : Hid (Qx 91 w Z2 p s9 ((ob, 113, (omc ⟨⟨l, fl, ct⟩, pa, pc⟩).toArray) :: (ab, 54, (anc ⟨c0, q0, e0, r0, y0, [], []⟩ (.slice oa m.length oc)).toArray) :: (rb, 54, anZ7) :: []) m oa oc l pa pc) := Lib.hid P3.out
      have jjc := (HOM.out.at (List.mem_cons_self ..)).cell
      have jj0 := jjc 0
      have jj1 := jjc 1
      have jj2 := jjc 2
      clear jjc
      simp only [omc, List.getElem?_toArray, List.getElem?_cons_zero, List.getElem?_cons_succ] at jj0 jj1 jj2
      have jjl := (HOM.out.at (List.mem_cons_self ..)).lt
      have mc := (HOM.out.at (List.mem_cons_of_mem _ (List.mem_cons_self ..))).cell
      have m5 := mc 5
      clear mc
      simp only [anc, List.getElem?_toArray, List.getElem?_cons_zero, List.getElem?_cons_succ] at m5
      have ml := (HOM.out.at (List.mem_cons_of_mem _ (List.mem_cons_self ..))).lt
      have mf5 := (HOM.out.at (List.mem_cons_of_mem _ (List.mem_cons_self ..))).frozen 5
      obtain ⟨nb, hnb⟩ : ∃ nb, nb = Z2.heap.size := ⟨_, rfl⟩
      obtain ⟨U, hU⟩ : ∃ U, U = Z2.alloc (.cells (omc ⟨⟨l, fl, ct⟩, pa, pc⟩).toArray 113) := ⟨_, rfl⟩
      have HRW : Hid (Qx 91 w U p s9 ((ob, 113, (omc ⟨⟨l, fl, ct⟩, pa, pc⟩).toArray) :: (ab, 54, (anc ⟨c0, q0, e0, r0, y0, [], []⟩ (.slice oa m.length oc)).toArray) :: (rb, 54, anZ7) :: []) m oa oc l pa pc ∧ Rd U 3 (some ⟨nb, 0, none⟩) 1 (omcs [(⟨⟨l, fl, ct⟩, pa, pc⟩ : Om)])) := Lib.hid (by rw [hU, hnb]; exact ⟨HOM.out.quiet ((Step.refl [] _).alloc _), rd_blk' (xs := omcs [(⟨⟨l, fl, ct⟩, pa, pc⟩ : Om)]) (by simpa [omcs] using Blk.new Z2 113 (omc ⟨⟨l, fl, ct⟩, pa, pc⟩).toArray) 3 1 rfl⟩)
      have HRI : Hid (Row U 3 oa m.length oc (omcs m)) := Lib.hid HRW.out.1.orow
      have HNB := Lib.hid hnb
      have HU := Lib.hid hU
      clear hnb hU
      go_upto_region 11 with (at_builtin; rw [show Z2.heap.size = nb from HNB.out.symm, show Z2.alloc (.cells #[.slice pa l.length pc, .bool fl, .int .i64 ct] 113) = U from HU.out.symm]; refine wpList_append_row rfl (.tmp 88) (.tmp 90) 52 52 rfl 113 i1 _ 3 40 Try.underlying52 HI1.out.1 HI1.out.2.1 HI1.out.2.2.1 HI1.out.2.2.2 rfl rfl HRI.out rfl (Src.rd 52 113 Try.underlying52 HRW.out.2 (omcs_one _)) (by unfold maxLen; omega) (by omega) (by omega) ?_; intro a9 c9 w9 hr9 st9; have G8 : Hid (Qx 91 w w9 p s9 ((ab, 54, (anc ⟨c0, q0, e0, r0, y0, [], []⟩ (.slice oa m.length oc)).toArray) :: (rb, 54, anZ7) :: []) (m ++ [(⟨⟨l, fl, ct⟩, pa, pc⟩ : Om)]) a9 c9 [] none 0) := Lib.hid (HRW.out.1.growO st9 hr9).drop; clear hr9 st9 m5 ml mf5; have zb := G8.out.at (List.mem_cons_self ..); have zf := zb.frozen 5; have zl := zb.lt; have zc := zb.cell 5; clear zb; simp only [anc, List.getElem?_toArray, List.getElem?_cons_zero, List.getElem?_cons_succ] at zc)
      clear zc zl zf jj0 jj1 jj2 jjl
      obtain ⟨U9, hU9⟩ : ∃ U9, U9 = w9.setCell ⟨ab, 5, none⟩ (.slice a9 (m.length + 1) c9) := ⟨_, rfl⟩
      have G9 : Hid (Qx 91 w U9 p s9 ((ab, 54, (anc ⟨c0, q0, e0, r0, y0, [], []⟩ (.slice a9 (m ++ [(⟨⟨l, fl, ct⟩, pa, pc⟩ : Om)]).length c9)).toArray) :: (rb, 54, anZ7) :: []) (m ++ [(⟨⟨l, fl, ct⟩, pa, pc⟩ : Om)]) a9 c9 [] none 0) := Lib.hid (by rw [hU9]; have hq := Qx.put (K1 := []) G8.out ((Step.refl [ab] w9).setCell (.inl (by simp)) _) ((G8.out.at (List.mem_cons_self ..)).set 5 (.slice a9 (m.length + 1) c9)); simpa [anc] using hq)
      rw [← hU9]
      clear hU9 G8 HRW HRI HNB HU HOM P3
      go_wp2_with fail
      go_roundw
      case rel => exact ⟨r + 1, m ++ [(⟨⟨l, fl, ct⟩, pa, pc⟩ : Om)], a9, c9, s9, by omega, by rw [List.length_append, List.length_singleton]; omega, by intro hb; rcases HLS.out with g | g; (exfalso; rw [HEQ.out] at g; simp only at g; rw [g] at hb; simp [rfail] at hb); (rw [HEQ.out] at g; simp only at g; rw [List.length_append, List.length_singleton]; omega), by go_num, Lib.hid ⟨G9.out, by have h := HSt.out; rw [HEQ.out] at h; rw [List.map_append]; exact h⟩⟩
      case measure => first | (simp [intOf]; done) | (simp [intOf]; omega)
   ·obtain rfl : r = N := by omega
    have hnr : ¬ (r : Int) < r := by omega
    have GE : Hid (Qx 91 w W p R.2 ((ab, 54, (anc ⟨c0, q0, e0, r0, y0, [], []⟩ (.slice oa m.length oc)).toArray) :: (rb, 54, anZ7) :: []) m oa oc [] none 0 ∧ m.map (·.o) = R.1) := by
     have e0 : (m.map (·.o), st1) = R := by have := HW.out.2; rwa [Nat.sub_self, otsR] at this
     rw [← e0]
     exact ⟨HW.out.1, rfl⟩
    clear HW pc1 pl
    go_wp2_with fail
    go_meet
    exact ⟨m, oa, oc, GE⟩
 case rest =>
  rename World => Y
  obtain ⟨m, oa, oc, HY⟩ := hcut
  have H0 := Lib.hid HY.out.1
  have HFF : Hid (m.map (·.o) = x.outs ∧ (⟨c0, q0, e0, r0, y0, m.map (·.o), (rtext R.2 mostN).1⟩, (rtext R.2 mostN).2) = (x, sf)) := Lib.hid (by have h := HF.out; rw [← HY.out.2] at h; exact ⟨by rw [← (Prod.mk.inj h).1], h⟩)
  rename ∀ (a : Act) (w : World), Code.wp _ _ _ a w → _ => hK
  refine hK _ _ ?_
  exact rd4 HSM HFF (Lib.hid HFF.out.1) H0
end
set_option maxHeartbeats 16000000 in
theorem refReadA_any (s : List UInt8) (w : World) (hs : s.length ≤ 2097152) : Calls Try.prog 20 #[Str s] w (RefDAP s (readA stopR mostN ⟨s, false⟩).1 (readA stopR mostN ⟨s, false⟩).2 w) := by
 have HS := Lib.hid hs
 have HSM := Lib.hid (readA_small mostN s hs)
 clear hs
 go_enter Try.func20, Try.ntmps20
 go_upto_region 3 with fail
 change Code.wp _ _ _ _ (((w.alloc (.cells anZ7 54)).alloc (.cells #[Str s, .bool false] 91)).alloc (.cells anZ7 54))
 obtain ⟨rb, hrb⟩ : ∃ b, b = w.heap.size := ⟨_, rfl⟩
 obtain ⟨p, hp⟩ : ∃ b, b = w.heap.size + 1 := ⟨_, rfl⟩
 obtain ⟨ab, hab⟩ : ∃ b, b = w.heap.size + 1 + 1 := ⟨_, rfl⟩
 obtain ⟨V0, hV0⟩ : ∃ V, V = (((w.alloc (.cells anZ7 54)).alloc (.cells #[Str s, .bool false] 91)).alloc (.cells anZ7 54)) := ⟨_, rfl⟩
 have H0 : Hid (Qx 91 w V0 p (⟨s, false⟩ : RS) ((ab, 54, (anc ⟨0, 0, 0, 0, false, [], []⟩ (.slice none 0 0)).toArray) :: (rb, 54, anZ7) :: []) [] none 0 [] none 0) := Lib.hid (by
  have B := blk3q w 54 91 54 anZ7 #[Str s, .bool false] anZ7
  rw [hV0, hp, hrb, hab]
  refine ⟨B.2.1, (((Step.refl [] w).alloc _).alloc _).alloc _, by omega, fun q hq => ?_, by simp; omega, Row.none _ 3, by simp [blks], by simp, by simp, Row.none _ 4, by simp [blks], by have := HS.out; simp only; omega, by simp⟩
  simp only [List.mem_cons, List.mem_nil_iff, or_false] at hq
  rcases hq with rfl | rfl
  ·exact ⟨B.2.2, by simp only; omega, by simp only; omega⟩
  ·exact ⟨B.1, by simp only; omega, by simp⟩)
 rw [← hV0]
 try rw [← hab]
 try rw [← hp]
 try rw [← hrb]
 clear hV0 hrb hp hab
 go_wp2_with fail
 refine (qr_upto H0.out mostN).mono ?_
 rintro e X9 ⟨rfl, t⟩
 have H9 := Lib.hid t
 clear t
 have zc := (H9.out.at (List.mem_cons_self ..)).cell
 have z0 := zc 0
 clear zc
 simp only [anc, List.getElem?_toArray, List.getElem?_cons_zero, List.getElem?_cons_succ] at z0
 have zl := (H9.out.at (List.mem_cons_self ..)).lt
 have zf0 := (H9.out.at (List.mem_cons_self ..)).frozen 0
 go_upto_region 4 with fail
 obtain ⟨V1, hZ⟩ : ∃ Z, Z = (X9.setCell ⟨ab, 0, none⟩ (.int .i64 (upto (⟨s, false⟩ : RS) mostN).1)) := ⟨_, rfl⟩
 have I1 : Hid (Qx 91 w V1 p (upto (⟨s, false⟩ : RS) mostN).2 ((ab, 54, (anc ⟨(upto (⟨s, false⟩ : RS) mostN).1, 0, 0, 0, false, [], []⟩ (.slice none 0 0)).toArray) :: (rb, 54, anZ7) :: []) [] none 0 [] none 0) := Lib.hid (by rw [hZ]; exact Qx.put (K1 := []) H9.out ((Step.refl [ab] X9).setCell (.inl (by simp)) _) (by have hq := (H9.out.at (List.mem_cons_self ..)).set 0 (.int .i64 (upto (⟨s, false⟩ : RS) mostN).1); simpa [anc] using hq))
 rw [← hZ]
 clear hZ H9 H0 z0 zl zf0
 go_wp2_with fail
 refine (qr_upto I1.out mostN).mono ?_
 rintro e X10 ⟨rfl, t⟩
 have H10 := Lib.hid t
 clear t
 have zc := (H10.out.at (List.mem_cons_self ..)).cell
 have z1 := zc 1
 clear zc
 simp only [anc, List.getElem?_toArray, List.getElem?_cons_zero, List.getElem?_cons_succ] at z1
 have zl := (H10.out.at (List.mem_cons_self ..)).lt
 have zf1 := (H10.out.at (List.mem_cons_self ..)).frozen 1
 go_upto_region 5 with fail
 obtain ⟨V2, hZ⟩ : ∃ Z, Z = (X10.setCell ⟨ab, 1, none⟩ (.int .i64 (upto (upto (⟨s, false⟩ : RS) mostN).2 mostN).1)) := ⟨_, rfl⟩
 have I2 : Hid (Qx 91 w V2 p (upto (upto (⟨s, false⟩ : RS) mostN).2 mostN).2 ((ab, 54, (anc ⟨(upto (⟨s, false⟩ : RS) mostN).1, (upto (upto (⟨s, false⟩ : RS) mostN).2 mostN).1, 0, 0, false, [], []⟩ (.slice none 0 0)).toArray) :: (rb, 54, anZ7) :: []) [] none 0 [] none 0) := Lib.hid (by rw [hZ]; exact Qx.put (K1 := []) H10.out ((Step.refl [ab] X10).setCell (.inl (by simp)) _) (by have hq := (H10.out.at (List.mem_cons_self ..)).set 1 (.int .i64 (upto (upto (⟨s, false⟩ : RS) mostN).2 mostN).1); simpa [anc] using hq))
 rw [← hZ]
 clear hZ H10 I1 z1 zl zf1
 go_wp2_with fail
 refine (qr_upto I2.out 255).mono ?_
 rintro e X11 ⟨rfl, t⟩
 have H11 := Lib.hid t
 clear t
 have zc := (H11.out.at (List.mem_cons_self ..)).cell
 have z2 := zc 2
 clear zc
 simp only [anc, List.getElem?_toArray, List.getElem?_cons_zero, List.getElem?_cons_succ] at z2
 have zl := (H11.out.at (List.mem_cons_self ..)).lt
 have zf2 := (H11.out.at (List.mem_cons_self ..)).frozen 2
 go_upto_region 6 with fail
 obtain ⟨V3, hZ⟩ : ∃ Z, Z = (X11.setCell ⟨ab, 2, none⟩ (.int .i64 (upto (upto (upto (⟨s, false⟩ : RS) mostN).2 mostN).2 255).1)) := ⟨_, rfl⟩
 have I3 : Hid (Qx 91 w V3 p (upto (upto (upto (⟨s, false⟩ : RS) mostN).2 mostN).2 255).2 ((ab, 54, (anc ⟨(upto (⟨s, false⟩ : RS) mostN).1, (upto (upto (⟨s, false⟩ : RS) mostN).2 mostN).1, (upto (upto (upto (⟨s, false⟩ : RS) mostN).2 mostN).2 255).1, 0, false, [], []⟩ (.slice none 0 0)).toArray) :: (rb, 54, anZ7) :: []) [] none 0 [] none 0) := Lib.hid (by rw [hZ]; exact Qx.put (K1 := []) H11.out ((Step.refl [ab] X11).setCell (.inl (by simp)) _) (by have hq := (H11.out.at (List.mem_cons_self ..)).set 2 (.int .i64 (upto (upto (upto (⟨s, false⟩ : RS) mostN).2 mostN).2 255).1); simpa [anc] using hq))
 rw [← hZ]
 clear hZ H11 I2 z2 zl zf2
 go_wp2_with fail
 refine (qr_upto I3.out mostN).mono ?_
 rintro e X12 ⟨rfl, t⟩
 have H12 := Lib.hid t
 clear t
 have zc := (H12.out.at (List.mem_cons_self ..)).cell
 have z3 := zc 3
 clear zc
 simp only [anc, List.getElem?_toArray, List.getElem?_cons_zero, List.getElem?_cons_succ] at z3
 have zl := (H12.out.at (List.mem_cons_self ..)).lt
 have zf3 := (H12.out.at (List.mem_cons_self ..)).frozen 3
 go_upto_region 7 with fail
 obtain ⟨V4, hZ⟩ : ∃ Z, Z = (X12.setCell ⟨ab, 3, none⟩ (.int .i64 (upto (upto (upto (upto (⟨s, false⟩ : RS) mostN).2 mostN).2 255).2 mostN).1)) := ⟨_, rfl⟩
 have I4 : Hid (Qx 91 w V4 p (upto (upto (upto (upto (⟨s, false⟩ : RS) mostN).2 mostN).2 255).2 mostN).2 ((ab, 54, (anc ⟨(upto (⟨s, false⟩ : RS) mostN).1, (upto (upto (⟨s, false⟩ : RS) mostN).2 mostN).1, (upto (upto (upto (⟨s, false⟩ : RS) mostN).2 mostN).2 255).1, (upto (upto (upto (upto (⟨s, false⟩ : RS) mostN).2 mostN).2 255).2 mostN).1, false, [], []⟩ (.slice none 0 0)).toArray) :: (rb, 54, anZ7) :: []) [] none 0 [] none 0) := Lib.hid (by rw [hZ]; exact Qx.put (K1 := []) H12.out ((Step.refl [ab] X12).setCell (.inl (by simp)) _) (by have hq := (H12.out.at (List.mem_cons_self ..)).set 3 (.int .i64 (upto (upto (upto (upto (⟨s, false⟩ : RS) mostN).2 mostN).2 255).2 mostN).1); simpa [anc] using hq))
 rw [← hZ]
 clear hZ H12 I3 z3 zl zf3
 go_wp2_with fail
 refine (qr_flag I4.out).mono ?_
 rintro e X13 ⟨rfl, t⟩
 have H13 := Lib.hid t
 clear t
 have zc := (H13.out.at (List.mem_cons_self ..)).cell
 have z4 := zc 4
 clear zc
 simp only [anc, List.getElem?_toArray, List.getElem?_cons_zero, List.getElem?_cons_succ] at z4
 have zl := (H13.out.at (List.mem_cons_self ..)).lt
 have zf4 := (H13.out.at (List.mem_cons_self ..)).frozen 4
 go_upto_region 8 with fail
 obtain ⟨V5, hZ⟩ : ∃ Z, Z = (X13.setCell ⟨ab, 4, none⟩ (.bool (rflag (upto (upto (upto (upto (⟨s, false⟩ : RS) mostN).2 mostN).2 255).2 mostN).2).1)) := ⟨_, rfl⟩
 have I5 : Hid (Qx 91 w V5 p (rflag (upto (upto (upto (upto (⟨s, false⟩ : RS) mostN).2 mostN).2 255).2 mostN).2).2 ((ab, 54, (anc ⟨(upto (⟨s, false⟩ : RS) mostN).1, (upto (upto (⟨s, false⟩ : RS) mostN).2 mostN).1, (upto (upto (upto (⟨s, false⟩ : RS) mostN).2 mostN).2 255).1, (upto (upto (upto (upto (⟨s, false⟩ : RS) mostN).2 mostN).2 255).2 mostN).1, (rflag (upto (upto (upto (upto (⟨s, false⟩ : RS) mostN).2 mostN).2 255).2 mostN).2).1, [], []⟩ (.slice none 0 0)).toArray) :: (rb, 54, anZ7) :: []) [] none 0 [] none 0) := Lib.hid (by rw [hZ]; exact Qx.put (K1 := []) H13.out ((Step.refl [ab] X13).setCell (.inl (by simp)) _) (by have hq := (H13.out.at (List.mem_cons_self ..)).set 4 (.bool (rflag (upto (upto (upto (upto (⟨s, false⟩ : RS) mostN).2 mostN).2 255).2 mostN).2).1); simpa [anc] using hq))
 rw [← hZ]
 clear hZ H13 I4 z4 zl zf4
 obtain ⟨N, hN⟩ : ∃ N : Nat, N = (rnum ((rflag (upto (upto (upto (upto (⟨s, false⟩ : RS) mostN).2 mostN).2 255).2 mostN).2).2)).1.toNat := ⟨_, rfl⟩
 have HNN : Hid ((upto ((rflag (upto (upto (upto (upto (⟨s, false⟩ : RS) mostN).2 mostN).2 255).2 mostN).2).2) mostN).1 = (N : Int) ∧ N ≤ 4611686018427387903) := Lib.hid (by have h0 := upto_nat ((rflag (upto (upto (upto (upto (⟨s, false⟩ : RS) mostN).2 mostN).2 255).2 mostN).2).2) mostN; have h1 := uptoQ_most ((rflag (upto (upto (upto (upto (⟨s, false⟩ : RS) mostN).2 mostN).2 255).2 mostN).2).2) mostN (by simp [mostN]); have h2 : (upto ((rflag (upto (upto (upto (upto (⟨s, false⟩ : RS) mostN).2 mostN).2 255).2 mostN).2).2) mostN).1 = (N : Int) := (by rw [hN]; exact (Int.toNat_of_nonneg h0).symm); have h3 : mostN = 4611686018427387903 := rfl; exact ⟨h2, by omega⟩)
 have HOT : Hid (otsR stopR mostN (N - 0) [] (upto ((rflag (upto (upto (upto (upto (⟨s, false⟩ : RS) mostN).2 mostN).2 255).2 mostN).2).2) mostN).2 = rdOts stopR mostN ((rflag (upto (upto (upto (upto (⟨s, false⟩ : RS) mostN).2 mostN).2 255).2 mostN).2).2)) := Lib.hid (by rw [hN, Nat.sub_zero]; rfl)
 clear hN
 go_cut [6] (fun v wx => v = .int .i64 (N : Int) ∧ Hid (Qx 91 w wx p (upto ((rflag (upto (upto (upto (upto (⟨s, false⟩ : RS) mostN).2 mostN).2 255).2 mostN).2).2) mostN).2 ((ab, 54, (anc ⟨(upto (⟨s, false⟩ : RS) mostN).1, (upto (upto (⟨s, false⟩ : RS) mostN).2 mostN).1, (upto (upto (upto (⟨s, false⟩ : RS) mostN).2 mostN).2 255).1, (upto (upto (upto (upto (⟨s, false⟩ : RS) mostN).2 mostN).2 255).2 mostN).1, (rflag (upto (upto (upto (upto (⟨s, false⟩ : RS) mostN).2 mostN).2 255).2 mostN).2).1, [], []⟩ (.slice none 0 0)).toArray) :: (rb, 54, anZ7) :: []) [] none 0 [] none 0))
 case first =>
  go_wp2_with fail
  refine (qr_upto I5.out mostN).mono ?_
  rintro e X14 ⟨rfl, t⟩
  have H14 := Lib.hid t
  clear t
  rw [HNN.out.1]
  go_wp2_with fail
  go_meet
  exact ⟨rfl, H14⟩
 case rest =>
  rename World => Y
  obtain ⟨rfl, HY⟩ := hcut
  rename ∀ (a : Act) (w : World), Code.wp _ _ _ a w → _ => hK
  refine hK _ _ ?_
  exact rd3 (x := (readA stopR mostN ⟨s, false⟩).1) (sf := (readA stopR mostN ⟨s, false⟩).2) HSM (Lib.hid HNN.out.2) HOT (Lib.hid rfl) HY
end Go.Proofs.Ytjfaplmojpldhaa
