/-
 wal.file, four, fromFour, right. Condition of file: the library's table as Go lays it.
-/
import Derived.Test.YtnkbphecabnnaaaGreatDoorZGA
import Derived.Test.YtnkbphecabnnaaaGreatDoorZGB
import Derived.Test.YtnkbphecabnnaaaGreatDoorZGN
import Derived.Test.YtnkbphecabnnaaaGreatDoorZGS
import Derived.Deep.DeepCutAuto
import Derived.Deep.CutBlock
namespace Go.Proofs.YtnkbphecabnnaaaGreatDoor
open Go.RowKit Go.Lib
set_option linter.unusedSimpArgs false
set_option linter.unusedVariables false
set_option maxRecDepth 100000

set_option maxHeartbeats 2000000 in
theorem wfile_any (n : Nat) (hn : n ≤ 999999999999) (w : World) (hT : PTab w) : Calls Tryz.prog 29 #[.int .i64 n] w fun e w' => e = .returned (Str (fileW n)) ∧ Step [] [] w w' := by
 have hd := decS_digs 11 n (by omega)
 have HT := Lib.hid (And.intro hT hd.2)
 have hl := hd.1
 clear hT hd
 go_enter Tryz.func29, Tryz.ntmps29
 go_wp2_with fail
 refine (sitoa_any n (by omega) w HT.out.1).mono ?_
 rintro e w1 ⟨rfl, hst1⟩
 have H1 := Lib.hid hst1
 clear hst1
 go_wp2_with fail
 rw [show (12 : Int) - ((decS n).length : Int) = ((12 - (decS n).length : Nat) : Int) by omega]
 refine (Tryz.sh_strings_Repeat ⟨#[48]⟩ (12 - (decS n).length) w1 (by omega) (by simp [ByteArray.size]; omega)).mono ?_
 rintro e w2 ⟨rfl, hb⟩
 rw [show (ByteArray.mk #[(48 : UInt8)]).data.toList = [48] from rfl, rep_one]
 have HR := Lib.hid HT.out.2
 obtain ⟨z, hz⟩ : ∃ z, z = List.replicate (12 - (decS n).length) (48 : UInt8) := ⟨_, rfl⟩
 rw [← hz]
 have HZ : Hid (fileW n = [119] ++ (z ++ decS n)) := Lib.hid (by rw [hz, fileW, HT.out.2]; rfl)
 have hzl : z.length ≤ 12 := by rw [hz]; simp
 clear hz
 have H2 : Hid (Step [] [] w w2) := Lib.hid (H1.out.trans (Step.of_below hb))
 clear hb
 go_wp2_with fail
 refine bodyPost_ret (results_tmp rfl _ _ _) rfl ⟨?_, H2.out⟩
 rw [HZ.out]
 exact congrArg (fun x => Ending.returned (.string x)) (str3 [119] z (decS n))
def rcc (r : Rc) : List Value := [.int .i64 r.k, .int .i64 r.i, .int .i64 r.t, .int .i64 r.v, Str r.dt]
abbrev rcV (r : Rc) : Value := .agg #[.int .i64 r.k, .int .i64 r.i, .int .i64 r.t, .int .i64 r.v, Str r.dt]
theorem rcc_len (r : Rc) : (rcc r).length = 5 := rfl
theorem rcc_one (r : Rc) : (rcc r).toArray.all (·.oneCell') = true := by simp [rcc, Value.oneCell']
set_option maxHeartbeats 2000000 in
theorem four_any (x : Wd) (w : World) : Calls Tryz.prog 51 #[.int .u32 (x.toNat : Int)] w fun e w' => ∃ a, e = .returned (.slice a 4 4) ∧ Row w' 1 a 4 4 ((be4 x).map bv) ∧ Step [] (blks a) w w' := by
 go_enter Tryz.func51, Tryz.ntmps51
 go_wp2_with fail
 refine bodyPost_ret (results_tmp rfl _ _ _) rfl ?_
 exact ⟨_, rfl, row_fresh w 5 ((be4 x).map bv) (by simp [be4]; unfold maxLen; omega), by simpa [blks] using (Step.refl [] w).hold _⟩
def fourW (s0 s1 s2 s3 : UInt8) : Wd := wor (wor (wor (wshl (wb s0) 24) (wshl (wb s1) 16)) (wshl (wb s2) 8)) (wb s3)
theorem fourW_val (s0 s1 s2 s3 : UInt8) : (fourW s0 s1 s2 s3).toNat = val [s0, s1, s2, s3] := by
 have h0 := s0.toNat_lt
 have h1 := s1.toNat_lt
 have h2 := s2.toNat_lt
 have h3 := s3.toNat_lt
 have e : ∀ c : UInt8, (wb c).toNat = c.toNat := fun c => by
  unfold wb
  rw [BitVec.toNat_ofNat]
  exact Nat.mod_eq_of_lt (by have := c.toNat_lt; omega)
 unfold fourW wor wshl
 rw [BitVec.toNat_or, BitVec.toNat_or, BitVec.toNat_or, BitVec.toNat_shiftLeft, BitVec.toNat_shiftLeft, BitVec.toNat_shiftLeft, e, e, e, e, Nat.shiftLeft_eq, Nat.shiftLeft_eq, Nat.shiftLeft_eq,
  Nat.mod_eq_of_lt (by omega), Nat.mod_eq_of_lt (by omega), Nat.mod_eq_of_lt (by omega)]
 have a1 : s0.toNat * 2 ^ 24 ||| s1.toNat * 2 ^ 16 = s0.toNat * 2 ^ 24 + s1.toNat * 2 ^ 16 := by
  rw [Nat.mul_comm s0.toNat, ← Nat.two_pow_add_eq_or_of_lt (by omega)]
 have a2 : s0.toNat * 2 ^ 24 + s1.toNat * 2 ^ 16 ||| s2.toNat * 2 ^ 8 = s0.toNat * 2 ^ 24 + s1.toNat * 2 ^ 16 + s2.toNat * 2 ^ 8 := by
  rw [show s0.toNat * 2 ^ 24 + s1.toNat * 2 ^ 16 = 2 ^ 16 * (s0.toNat * 2 ^ 8 + s1.toNat) by omega, ← Nat.two_pow_add_eq_or_of_lt (by omega)]
 have a3 : s0.toNat * 2 ^ 24 + s1.toNat * 2 ^ 16 + s2.toNat * 2 ^ 8 ||| s3.toNat = s0.toNat * 2 ^ 24 + s1.toNat * 2 ^ 16 + s2.toNat * 2 ^ 8 + s3.toNat := by
  rw [show s0.toNat * 2 ^ 24 + s1.toNat * 2 ^ 16 + s2.toNat * 2 ^ 8 = 2 ^ 8 * (s0.toNat * 2 ^ 16 + s1.toNat * 2 ^ 8 + s2.toNat) by omega, ← Nat.two_pow_add_eq_or_of_lt (by omega)]
 rw [a1, a2, a3]
 simp only [val, List.foldl_cons, List.foldl_nil]
 omega
set_option maxHeartbeats 2000000 in
theorem fromFour_any (s0 s1 s2 s3 : UInt8) (w : World) : Calls Tryz.prog 64 #[Str [s0, s1, s2, s3]] w fun e w' => e = .returned (.int .u32 ((fourW s0 s1 s2 s3).toNat : Int)) ∧ ∃ n, w' = w.drewN n := by
 go_enter Tryz.func64, Tryz.ntmps64
 go_upto_region 1 with fail
 go_quiet (fail)
 go_wp2_with fail
 exact bodyPost_ret (results_tmp rfl _ _ _) rfl ⟨rfl, nq, rfl⟩
theorem all_false {ns : List Int} {j : Nat} {x : Int} (h : ns[j]? = some x) (hx : numOk x = false) : ns.all numOk = false := by
 rw [List.all_eq_false]
 exact ⟨x, List.mem_of_getElem? h, by rw [hx]; simp⟩
set_option maxHeartbeats 4000000 in
theorem wright_any (r : Rc) (w : World) (hl : r.dt.length ≤ 140737488351232) : Calls Tryz.prog 47 #[rcV r] w fun e w' => e = .returned (.bool (rightRc r)) ∧ Step [] [] w w' := by
 go_enter Tryz.func47, Tryz.ntmps47
 go_upto_region 1 with fail
 obtain ⟨rb, hrb⟩ : ∃ rb, rb = w.heap.size := ⟨_, rfl⟩
 obtain ⟨V, hV⟩ : ∃ V, V = w.alloc (.cells (rcc r).toArray 45) := ⟨_, rfl⟩
 have H0 : Hid (Blk V rb 45 (rcc r).toArray ∧ Step [] [] w V) := by
  subst hV hrb
  exact ⟨Blk.new w _ _, (Step.refl [] w).alloc _⟩
 change Code.wp _ _ _ _ (w.alloc (.cells (rcc r).toArray 45))
 rw [← hV]
 try rw [← hrb]
 clear hV hrb
 have fc := H0.out.1.cell
 have f0 := fc 0
 have f1 := fc 1
 have f2 := fc 2
 have f3 := fc 3
 have f4 := fc 4
 clear fc
 simp only [rcc, List.getElem?_toArray, List.getElem?_cons_zero, List.getElem?_cons_succ] at f0 f1 f2 f3 f4
 go_wp2_with fail
 obtain ⟨nb, hnb⟩ : ∃ nb, nb = V.heap.size := ⟨_, rfl⟩
 obtain ⟨V2, hV2⟩ : ∃ V2, V2 = V.alloc (.cells #[.int .i64 r.i, .int .i64 r.t, .int .i64 r.v] 3) := ⟨_, rfl⟩
 have H1 : Hid (Blk V2 rb 45 (rcc r).toArray ∧ Step [] [] w V2 ∧ Rd V2 1 (some ⟨nb, 0, none⟩) 3 ([r.i, r.t, r.v].map (Value.int .i64))) := by
  subst hV2 hnb
  exact ⟨H0.out.1.alloc _, H0.out.2.alloc _, rd_blk' (xs := [r.i, r.t, r.v].map (Value.int .i64)) (Blk.new V _ _) 1 3 rfl⟩
 rw [← hV2]
 try rw [← hnb]
 clear hV2 hnb H0 f0 f1 f2 f3 f4
 obtain ⟨ns, hns⟩ : ∃ ns : List Int, ns = [r.i, r.t, r.v] := ⟨_, rfl⟩
 have hn3 : ns.length = 3 := by rw [hns]; rfl
 have HR : Hid (rightRc r = (ns.all numOk && (decide (2 ≤ r.k) && decide (r.k ≤ 4) && decide (r.dt.length ≤ 131072)))) := Lib.hid (by rw [hns]; simp [rightRc, Bool.and_assoc])
 rw [← hns] at H1
 clear hns
 go_loopw [13] (fun i W => ∃ j : Nat, i = .int .i64 j ∧ j ≤ 3 ∧ Hid ((ns.take j).all numOk = true ∧ W = V2)) (fun i _ => 3 - (intOf i).toNat)
 case atStart => exact ⟨0, rfl, by omega, Lib.hid ⟨rfl, rfl⟩⟩
 case round =>
  rename World => W
  obtain ⟨j, rfl, hj, HW⟩ := hrel
  have hWV := HW.out.2
  subst hWV
  by_cases hlt : j < 3
  ·have hlt' : (j : Int) < 3 := by omega
   obtain ⟨x, hx⟩ : ∃ x, ns[j]? = some x := ⟨_, List.getElem?_eq_getElem (by omega)⟩
   have z0 := H1.out.2.2.cell nb 0 none rfl j (.int .i64 x) (by rw [List.getElem?_map, hx]; rfl)
   rw [Nat.zero_add] at z0
   have gl : nb < W.heap.size := by have := World.block_lt_of_cell? _ _ z0; simpa using this
   have HX := Lib.hid hx
   clear hx
   by_cases hneg : x < 0
   ·have hd : decide (x < 0) = true := decide_eq_true hneg
    have HF : Hid (rightRc r = false) := Lib.hid (by rw [HR.out, all_false HX.out (by unfold numOk; rw [decide_eq_false (by omega)]; rfl)]; rfl)
    clear hneg
    go_wp2_with fail
    exact bodyPost_ret (results_tmp rfl _ _ _) rfl ⟨by rw [HF.out]; rfl, H1.out.2.1⟩
   ·have hd : decide (x < 0) = false := decide_eq_false hneg
    by_cases hbig : 1099511627776 < x
    ·have hd2 : decide (1099511627776 < x) = true := decide_eq_true hbig
     have HF : Hid (rightRc r = false) := Lib.hid (by rw [HR.out, all_false HX.out (by unfold numOk; rw [decide_eq_false (show ¬ x ≤ 1099511627776 by omega), Bool.and_false])]; rfl)
     clear hneg hbig
     go_wp2_with fail
     exact bodyPost_ret (results_tmp rfl _ _ _) rfl ⟨by rw [HF.out]; rfl, H1.out.2.1⟩
    ·have hd2 : decide (1099511627776 < x) = false := decide_eq_false hbig
     have HN : Hid ((ns.take (j + 1)).all numOk = true) := Lib.hid (by
      rw [List.take_add_one, HX.out, List.all_append, HW.out.1]
      unfold numOk
      simp
      omega)
     clear hneg hbig
     go_wp2_with fail
     go_roundw
     case rel => exact ⟨j + 1, by go_num, by omega, HN.out, trivial⟩
     case measure => simp [intOf]; omega
  ·obtain rfl : j = 3 := by omega
   have HA : Hid (ns.all numOk = true) := Lib.hid (by have h := HW.out.1; rwa [List.take_of_length_le (by omega)] at h)
   have fc := H1.out.1.cell
   have f0 := fc 0
   have f4 := fc 4
   clear fc
   simp only [rcc, List.getElem?_toArray, List.getElem?_cons_zero, List.getElem?_cons_succ] at f0 f4
   by_cases h2 : 2 ≤ r.k
   ·have d2 : decide (2 ≤ r.k) = true := decide_eq_true h2
    by_cases h4 : r.k ≤ 4
    ·have d4 : decide (r.k ≤ 4) = true := decide_eq_true h4
     by_cases h5 : r.dt.length ≤ 131072
     ·have d5 : decide ((r.dt.length : Int) ≤ 131072) = true := decide_eq_true (by omega)
      have HF : Hid (rightRc r = true) := Lib.hid (by rw [HR.out, HA.out, d2, d4, decide_eq_true h5]; rfl)
      go_wp2_with fail
      exact bodyPost_ret (results_tmp rfl _ _ _) rfl ⟨by rw [HF.out]; rfl, H1.out.2.1⟩
     ·have d5 : decide ((r.dt.length : Int) ≤ 131072) = false := decide_eq_false (by omega)
      have HF : Hid (rightRc r = false) := Lib.hid (by rw [HR.out, HA.out, d2, d4, decide_eq_false h5]; rfl)
      go_wp2_with fail
      exact bodyPost_ret (results_tmp rfl _ _ _) rfl ⟨by rw [HF.out]; rfl, H1.out.2.1⟩
    ·have d4 : decide (r.k ≤ 4) = false := decide_eq_false h4
     have HF : Hid (rightRc r = false) := Lib.hid (by rw [HR.out, HA.out, d2, d4]; rfl)
     go_wp2_with fail
     exact bodyPost_ret (results_tmp rfl _ _ _) rfl ⟨by rw [HF.out]; rfl, H1.out.2.1⟩
   ·have d2 : decide (2 ≤ r.k) = false := decide_eq_false h2
    have HF : Hid (rightRc r = false) := Lib.hid (by rw [HR.out, HA.out, d2]; rfl)
    go_wp2_with fail
    exact bodyPost_ret (results_tmp rfl _ _ _) rfl ⟨by rw [HF.out]; rfl, H1.out.2.1⟩

end Go.Proofs.YtnkbphecabnnaaaGreatDoor
namespace Go.Proofs.YtnkbphecabnnaaaGreatDoor
open Go.RowKit Go.Lib
set_option linter.unusedSimpArgs false
set_option linter.unusedVariables false
set_option maxRecDepth 100000

structure Fx (w0 w : World) (b nb p : Nat) (r : Rc) (S : List Nat) (st : WS) : Prop where
 rc : Blk w b 45 (rcc r).toArray
 ns : Rd w 1 (some ⟨nb, 0, none⟩) 4 ([r.k, r.i, r.t, r.v].map (Value.int .i64))
 wr : Wr w p S st
 o1 : b ∉ S
 o2 : nb ∉ S
 st : Step [] S w0 w
section
variable {w0 w w' : World} {b nb p : Nat} {r : Rc} {S S' : List Nat} {st st' : WS}
theorem Fx.put (h : Fx w0 w b nb p r S st) (g : Wr w' p S' st') (k : Step S S' w w') : Fx w0 w' b nb p r S' st' := by
 have hl : nb < w.heap.size := by
  have := World.block_lt_of_cell? _ _ (h.ns.cell nb 0 none rfl 0 _ rfl)
  simpa using this
 exact ⟨h.rc.step k h.o1, h.ns.step k (fun g hg => by simp [blks] at hg; subst hg; exact h.o2), g, k.notin h.rc.lt h.o1, k.notin hl h.o2, h.st.trans k⟩
theorem Fx.quiet (h : Fx w0 w b nb p r S st) (k : Step [] [] w w') : Fx w0 w' b nb p r S st :=
 ⟨h.rc.step k (by simp), h.ns.step k (by simp), h.wr.step k (by simp), h.o1, h.o2, h.st.trans (k.keep _)⟩
end
def wnums (st : WS) (l : List Int) : WS := l.foldl wnum st
theorem wnum_ok {b : List UInt8} {n : Int} (h0 : 0 ≤ n) (h1 : n ≤ 1099511627776) (hb : b.length ≤ 1000) : wnum ⟨b, 0⟩ n = ⟨b ++ numB n.toNat, 0⟩ := by
 have h2 := numB_len n.toNat (by omega)
 unfold wnum wput
 rw [if_neg (by simp; omega)]
 simp
 omega
theorem pay_of {r : Rc} (h : OkRc r) : wbytes (wtext (wnums ⟨[], 0⟩ [r.k, r.i, r.t, r.v]) r.dt) = (payB r, 0) := by
 have a0 := numB_len r.k.toNat (by have := h.k; omega)
 have a1 := numB_len r.i.toNat (by have := h.i; omega)
 have a2 := numB_len r.t.toNat (by have := h.t; omega)
 have a3 := numB_len r.v.toNat (by have := h.v; omega)
 have a4 := numB_len r.dt.length (by have := h.dt; omega)
 have hd := h.dt
 unfold wnums
 simp only [List.foldl_cons, List.foldl_nil]
 rw [wnum_ok (by have := h.k; omega) (by have := h.k; omega) (by simp), wnum_ok h.i.1 h.i.2 (by simp; omega), wnum_ok h.t.1 h.t.2 (by simp; omega), wnum_ok h.v.1 h.v.2 (by simp; omega)]
 unfold wtext wput
 simp only [List.nil_append]
 rw [if_neg (by simp), if_neg (by simp only [List.length_append]; omega)]
 simp [wbytes, payB, List.append_assoc]
def FrP (r : Rc) (w : World) (e : Ending) (w' : World) : Prop := ∃ a cap, e = .returned (.slice a (frameB r).length cap) ∧ Row w' 1 a (frameB r).length cap ((frameB r).map bv) ∧ Step [] (blks a) w w'
set_option maxHeartbeats 4000000 in
theorem wframe_any (r : Rc) (hr : OkRc r) (w : World) : Calls Tryz.prog 35 #[rcV r] w (FrP r w) := by
 obtain ⟨i0, hi, hz0, hz1, hz2⟩ := info_parts Tryz.info_bytes
 have HI := Lib.hid (And.intro hi (And.intro hz0 (And.intro hz1 hz2)))
 have HP := Lib.hid (pay_of hr)
 have hpl := pay_len hr
 have hdl := hr.dt
 have hnum : ∀ x ∈ [r.k, r.i, r.t, r.v], x < 9223372036854775808 := by
  intro x hx
  have := hr.k; have := hr.i; have := hr.t; have := hr.v
  simp only [List.mem_cons, List.not_mem_nil, or_false] at hx
  omega
 have HNUM := Lib.hid hnum
 clear hi hz0 hz1 hz2 hnum hr
 go_enter Tryz.func35, Tryz.ntmps35
 go_upto_region 2 with fail
 obtain ⟨b, hb⟩ : ∃ b, b = w.heap.size := ⟨_, rfl⟩
 obtain ⟨V, hV⟩ : ∃ V, V = (w.alloc (.cells (rcc r).toArray 45)).alloc (.cells #[.slice none 0 0, .int .i64 0] 93) := ⟨_, rfl⟩
 have H0 : Hid (Blk V b 45 (rcc r).toArray ∧ Wr V (b + 1) [b + 1] ⟨[], 0⟩ ∧ Step [] [b + 1] w V) := by
  have h1 : (w.alloc (.cells (rcc r).toArray 45)).heap.size = w.heap.size + 1 := by simp
  have b1 := (Blk.new (w.alloc (.cells (rcc r).toArray 45)) 93 #[.slice none 0 0, .int .i64 0])
  have k := ((Step.refl [] w).alloc (.cells (rcc r).toArray 45)).hold (.cells #[.slice none 0 0, .int .i64 0] 93)
  rw [h1] at b1 k
  subst hV hb
  exact ⟨(Blk.new w _ _).alloc _, ⟨none, 0, b1, Row.none _ _, by simp [blks], rfl, by simp⟩, k⟩
 change Code.wp _ _ _ _ ((w.alloc (.cells (rcc r).toArray 45)).alloc (.cells #[.slice none 0 0, .int .i64 0] 93))
 rw [← hV]
 try rw [← hb]
 obtain ⟨p, hp⟩ : ∃ p, p = b + 1 := ⟨_, rfl⟩
 try rw [← hp]
 rw [← hp] at H0
 have hbp : b ≠ p := by omega
 have HBP := Lib.hid hbp
 clear hV hb hp hbp
 have fc := H0.out.1.cell
 have f0 := fc 0
 have f1 := fc 1
 have f2 := fc 2
 have f3 := fc 3
 clear fc
 simp only [rcc, List.getElem?_toArray, List.getElem?_cons_zero, List.getElem?_cons_succ] at f0 f1 f2 f3
 go_wp2_with fail
 obtain ⟨nb, hnb⟩ : ∃ nb, nb = V.heap.size := ⟨_, rfl⟩
 obtain ⟨V2, hV2⟩ : ∃ V2, V2 = V.alloc (.cells #[.int .i64 r.k, .int .i64 r.i, .int .i64 r.t, .int .i64 r.v] 3) := ⟨_, rfl⟩
 have H1 : Hid (Fx w V2 b nb p r [p] (wnums ⟨[], 0⟩ ([r.k, r.i, r.t, r.v].take 0))) := by
  have hpl : p < V.heap.size := by obtain ⟨_, _, g, _⟩ := H0.out.2.1; exact g.lt
  subst hV2 hnb
  exact ⟨H0.out.1.alloc _, rd_blk' (xs := [r.k, r.i, r.t, r.v].map (Value.int .i64)) (Blk.new V _ _) 1 4 rfl, H0.out.2.1.step ((Step.refl [] V).alloc _) (by simp), by simpa using HBP.out, by simp; exact fun e => by have := hpl; omega, H0.out.2.2.alloc _⟩
 rw [← hV2]
 try rw [← hnb]
 clear hV2 hnb H0 f0 f1 f2 f3
 obtain ⟨ns, hns⟩ : ∃ ns : List Int, ns = [r.k, r.i, r.t, r.v] := ⟨_, rfl⟩
 have hn4 : ns.length = 4 := by rw [hns]; rfl
 have HNS := Lib.hid hns
 rw [← hns] at H1 HNUM HP
 clear hns
 go_loopw [21] (fun i W => ∃ j : Nat, i = .int .i64 j ∧ j ≤ 4 ∧ Hid (∃ S, Fx w W b nb p r S (wnums ⟨[], 0⟩ (ns.take j)))) (fun i _ => 4 - (intOf i).toNat)
 case atStart => exact ⟨0, rfl, by omega, Lib.hid ⟨_, H1.out⟩⟩
 case round =>
  rename World => W
  obtain ⟨j, rfl, hj, HW0⟩ := hrel
  obtain ⟨S, hw⟩ := HW0.out
  have HW := Lib.hid hw
  clear hw HW0
  by_cases hlt : j < 4
  ·have hlt' : (j : Int) < 4 := by omega
   obtain ⟨x, hx⟩ : ∃ x, ns[j]? = some x := ⟨_, List.getElem?_eq_getElem (by omega)⟩
   have z0 := HW.out.ns.cell nb 0 none rfl j (.int .i64 x) (by rw [← HNS.out, List.getElem?_map, hx]; rfl)
   rw [Nat.zero_add] at z0
   have gl : nb < W.heap.size := by have := World.block_lt_of_cell? _ _ z0; simpa using this
   have hxl : x < 9223372036854775808 := HNUM.out x (List.mem_of_getElem? hx)
   have HX := Lib.hid hx
   clear hx
   go_wp2_with fail
   refine (num_any p S _ x hxl W HW.out.wr).mono ?_
   rintro e w1 ⟨rfl, S1, g, k⟩
   have HN : Hid (∃ S, Fx w w1 b nb p r S (wnums ⟨[], 0⟩ (ns.take (j + 1)))) := Lib.hid ⟨S1, by
    have h := HW.out.put g k
    have e1 : wnums ⟨[], 0⟩ (ns.take (j + 1)) = wnum (wnums ⟨[], 0⟩ (ns.take j)) x := by
     unfold wnums
     rw [List.take_add_one, HX.out, List.foldl_append]
     rfl
    rw [e1]
    exact h⟩
   clear g k z0 gl HW
   go_wp2_with fail
   go_roundw
   case rel => exact ⟨j + 1, by go_num, by omega, HN⟩
   case measure => simp [intOf]; omega
  ·obtain rfl : j = 4 := by omega
   rw [List.take_of_length_le (by omega)] at HW
   have f4 := HW.out.rc.cell 4
   simp only [rcc, List.getElem?_toArray, List.getElem?_cons_zero, List.getElem?_cons_succ] at f4
   go_wp2_with fail
   refine (text_any p S _ r.dt W HW.out.wr (by omega)).mono ?_
   rintro e w1 ⟨rfl, S1, g, k⟩
   have H2 := Lib.hid (HW.out.put g k)
   clear g k HW f4
   go_wp2_with fail
   refine (bytes_any p S1 _ w1 H2.out.wr).mono ?_
   rintro e w2 ⟨rfl, k⟩
   rw [HP.out]
   have H3 : Hid (Step [] [] w w2) := Lib.hid ((H2.out.quiet k).st.drop (by simp))
   clear k H2
   obtain ⟨bd, hbd⟩ : ∃ bd, bd = payB r := ⟨_, rfl⟩
   have HT : Hid (frameB r = lenB bd.length ++ (be4 (crcL bd) ++ bd)) := Lib.hid (by rw [hbd]; rfl)
   rw [← hbd] at hpl
   rw [← hbd]
   clear hbd
   have hw32 : IntKind.u32.wrap (bd.length : Int) = ((BitVec.ofNat 32 bd.length).toNat : Int) := wd_wrap _
   obtain ⟨lx, hlx⟩ : ∃ lx, lx = BitVec.ofNat 32 bd.length := ⟨_, rfl⟩
   have HLX : Hid (lenB bd.length = be4 lx) := Lib.hid (by rw [hlx]; rfl)
   rw [← hlx] at hw32
   clear hlx
   go_wp2_with fail
   refine (four_any lx w2).mono ?_
   rintro e w3 ⟨a1, rfl, r1, st1⟩
   have H4 : Hid (Row w3 1 a1 4 4 ((be4 lx).map bv) ∧ Step [] (blks a1) w w3) := Lib.hid ⟨r1, H3.out.trans st1⟩
   clear r1 st1 H3 hw32
   go_wp2_with fail
   obtain ⟨g, cap, w4, hcv, hrow, hst, hg⟩ := run_row_of_str (P := Tryz.prog) (w := w3) 9 22 5 bd Tryz.underlying9 Tryz.underlying22 Tryz.underlying5 (by unfold maxLen; omega)
   rw [hcv, Result.andThen_ok, Oper.upon_value]
   have hst0 : Step [] [] w3 w4 := hst.drop (by simp)
   have H5 : Hid (Row w4 1 a1 4 4 ((be4 lx).map bv) ∧ Step [] (blks a1) w w4 ∧ Row w4 1 (some ⟨g, 0, none⟩) bd.length cap (bd.map bv)) := Lib.hid ⟨H4.out.1.step hst0 (by simp), H4.out.2.trans (hst0.keep _), hrow⟩
   clear hrow hst hst0 hcv hg H4
   go_wp2_with fail
   refine (of_any _ _ _ bd w4 H5.out.2.2.rd rfl (by omega)).mono ?_
   rintro e w5 ⟨rfl, rfl⟩
   obtain ⟨cx, hcx⟩ : ∃ cx, cx = crcL bd := ⟨_, rfl⟩
   rw [← hcx] at HT
   rw [← hcx]
   clear hcx
   go_wp2_with fail
   refine (four_any cx w4).mono ?_
   rintro e w6 ⟨a2, rfl, r2, st2⟩
   have st20 : Step [] [] w4 w6 := st2.drop (by simp)
   have H6 : Hid (Row w6 1 a1 4 4 ((be4 lx).map bv) ∧ Step [] (blks a1) w w6 ∧ Rd w6 1 a2 4 ((be4 cx).map bv)) := Lib.hid ⟨H5.out.1.step st20 (by simp), H5.out.2.1.trans (st20.keep _), r2.rd⟩
   clear r2 st2 st20 H5
   go_upto_region 10 with (at_builtin; refine wpList_append_row rfl (.tmp 41) (.tmp 45) 22 22 rfl 5 i0 _ 1 1 Tryz.underlying22 HI.out.1 HI.out.2.1 HI.out.2.2.1 HI.out.2.2.2 rfl rfl H6.out.1 rfl (Src.rd 22 5 Tryz.underlying22 H6.out.2.2 one_of_map) (by unfold maxLen; omega) (by omega) (by omega) ?_; intro a7 c7 w7 r7 st7; have H7 := Lib.hid (And.intro r7 (H6.out.2.1.trans st7)); clear r7 st7)
   clear H6
   go_wp2_with (at_builtin; refine wpList_append_row rfl (.tmp 47) (.tmp 48) 22 9 rfl 5 i0 _ 1 1 Tryz.underlying22 HI.out.1 HI.out.2.1 HI.out.2.2.1 HI.out.2.2.2 rfl rfl H7.out.1 rfl (Src.str w7 9 Tryz.underlying9 bd) (by unfold maxLen; omega) (by omega) (by omega) ?_; intro a8 c8 w8 r8 st8; have H8 := Lib.hid (And.intro r8 (H7.out.2.trans st8)); clear r8 st8)
   refine bodyPost_ret (results_tmp rfl _ _ _) rfl ?_
   have hfl : (frameB r).length = 4 + 4 + bd.length := by rw [HT.out]; simp [lenB, be4_len]; omega
   refine ⟨a8, c8, by rw [hfl]; rfl, ?_, H8.out.2⟩
   have h := H8.out.1
   rw [hfl, HT.out, HLX.out]
   simpa [List.append_assoc] using h

end Go.Proofs.YtnkbphecabnnaaaGreatDoor
namespace Go.Proofs.YtnkbphecabnnaaaGreatDoor
open Go.RowKit Go.Lib
set_option linter.unusedSimpArgs false
set_option linter.unusedVariables false
set_option maxRecDepth 100000

theorem decv_snoc (l : List UInt8) (c : UInt8) : decv (l ++ [c]) = decv l * 10 + (c.toNat - 48) := by simp [decv, List.foldl_append]
theorem decv_lt : ∀ (k : Nat) (l : List UInt8), l.length = k → (∀ c ∈ l, 48 ≤ c.toNat ∧ c.toNat ≤ 57) → decv l < 10 ^ k
  | 0, l, hk, _ => by
    have : l = [] := List.eq_nil_of_length_eq_zero hk
    subst this
    simp [decv]
  | m + 1, l, hk, hc => by
    have hne : l ≠ [] := by rintro rfl; simp at hk
    have hs := List.dropLast_concat_getLast hne
    have h1 := decv_lt m l.dropLast (by simp [hk]) (fun x hx => hc x (List.dropLast_subset l hx))
    have h2 := hc _ (List.getLast_mem hne)
    rw [← hs, decv_snoc, Nat.pow_succ]
    omega
theorem decv_small {l : List UInt8} (h : l.length = 12) (hc : ∀ c ∈ l, 48 ≤ c.toNat ∧ c.toNat ≤ 57) (j : Nat) (hj : j ≤ 12) : decv (l.take j) < 1000000000000 := by
  have h1 := decv_lt j (l.take j) (by rw [List.length_take]; omega) (fun c hm => hc c (List.mem_of_mem_take hm))
  have h2 : 10 ^ j ≤ 10 ^ 12 := Nat.pow_le_pow_right (by omega) hj
  omega
set_option maxHeartbeats 4000000 in
theorem puint_in (l : List UInt8) (h12 : l.length = 12) (hc : ∀ c ∈ l, 48 ≤ c.toNat ∧ c.toNat ≤ 57) (w : World) : Calls Tryz.prog 76 #[Str l, .int .i64 10, .int .i64 62] w fun e w' => e = .returned (.tuple #[.int .u64 (decv l : Int), .nilIface]) ∧ Step [] [] w w' := by
  have HC := Lib.hid (And.intro h12 hc)
  have hne : (l == []) = false := by cases l with | nil => simp at h12 | cons a b => rfl
  have hne2 : l.isEmpty = false := by cases l with | nil => simp at h12 | cons a b => rfl
  clear hc
  have HL := Lib.hid h12
  have hll : l.length ≤ 12 := by omega
  clear h12
  go_enter Tryz.func76, Tryz.ntmps76
  go_upto_region 35 with fail
  go_wp2_with fail
  obtain ⟨g, cap, w4, hcv, hrow, hst, hg⟩ := run_row_of_str (P := Tryz.prog) (w := w) 9 22 5 l Tryz.underlying9 Tryz.underlying22 Tryz.underlying5 (by unfold maxLen; omega)
  rw [hcv, Result.andThen_ok, Oper.upon_value]
  have H0 : Hid (Row w4 1 (some ⟨g, 0, none⟩) l.length cap (l.map bv) ∧ Step [] [] w w4) := Lib.hid ⟨hrow, hst.drop (by simp)⟩
  clear hrow hst hcv hg hne hne2
  go_wp2_with fail
  go_loopw [101, 13, 12] (fun i n u W => ∃ j : Nat, i = .int .i64 j ∧ j ≤ 12 ∧ n = .int .u64 (decv (l.take j) : Int) ∧ u = .bool false ∧ Hid (W = w4)) (fun i _ _ _ => 12 - (intOf i).toNat)
  case atStart => exact ⟨0, rfl, by omega, by simp [decv], rfl, Lib.hid rfl⟩
  case round =>
    rename World => W
    obtain ⟨j, rfl, hj, rfl, rfl, HW⟩ := hrel
    have hWV := HW.out
    subst hWV
    obtain ⟨N, hN⟩ : ∃ N, N = decv (l.take j) := ⟨_, rfl⟩
    have HN := Lib.hid hN
    have hNs : N < 1000000000000 := by rw [hN]; exact decv_small HC.out.1 HC.out.2 j hj
    rw [← hN]
    clear hN
    by_cases hlt : j < 12
    · have hlt' : j < l.length := by rw [HL.out]; exact hlt
      have hlt2 : (j : Int) < (l.length : Int) := by omega
      obtain ⟨c, hx⟩ : ∃ c, l[j]? = some c := ⟨_, List.getElem?_eq_getElem hlt'⟩
      have z0 := (H0.out.1.cell rfl j (by omega)).1
      rw [List.getElem?_map, hx, Nat.zero_add] at z0
      have hcr := HC.out.2 c (List.mem_of_getElem? hx)
      have HS : Hid (decv (l.take (j + 1)) = N * 10 + (c.toNat - 48)) := Lib.hid (by rw [List.take_add_one, hx, HN.out]; exact decv_snoc _ _)
      have gl : g < W.heap.size := by have := World.block_lt_of_cell? _ _ z0; simpa using this
      have z1 : W.cell? ⟨g, j, none⟩ = some (.int .u8 (c.toNat : Int)) := z0
      clear hx z0
      generalize c.toNat = cn at *
      have d95 : decide ((cn : Int) = 95) = false := decide_eq_false (by omega)
      have d95' : ((cn : Int) == 95) = false := by simp; omega
      have dn : decide ((1844674407370955162 : Int) ≤ (N : Int)) = false := decide_eq_false (by omega)
      have dn' : decide (1844674407370955162 ≤ N) = false := decide_eq_false (by omega)
      have hc1 : (48 : Int) ≤ (cn : Int) := by omega
      have hc2 : (cn : Int) ≤ 57 := by omega
      have hw0 : IntKind.u8.wrap ((cn : Int) - 48) = ((cn - 48 : Nat) : Int) := by rw [IntWalk.u8_in _ (by omega)]; omega
      have hw3 : IntKind.u64.wrap ((cn - 48 : Nat) : Int) = ((cn - 48 : Nat) : Int) := IntWalk.u64_in _ (by omega)
      obtain ⟨dd, hdd⟩ : ∃ dd, dd = cn - 48 := ⟨_, rfl⟩
      rw [← hdd] at hw0 hw3 HS
      have hdl : dd ≤ 9 := by omega
      have hw1 : IntKind.u64.wrap ((N : Int) * 10) = ((N * 10 : Nat) : Int) := by rw [IntWalk.u64_in _ (by omega)]; omega
      have hw2 : IntKind.u64.wrap (((N * 10 : Nat) : Int) + (dd : Int)) = ((N * 10 + dd : Nat) : Int) := by rw [IntWalk.u64_in _ (by omega)]; omega
      clear hdd
      go_wp2_with fail
      go_roundw
      case rel => exact ⟨j + 1, by go_num, by omega, by rw [HS.out]; go_num, rfl, Lib.hid trivial⟩
      case measure => simp [intOf]; omega
    · obtain rfl : j = 12 := by omega
      have hlt2 : ¬ 12 < l.length := by rw [HL.out]; omega
      have hlt3 : (12 : Int) ≥ (l.length : Int) := by omega
      have HD : Hid (decv l = N) := Lib.hid (by have := HN.out; rw [List.take_of_length_le (by rw [HL.out]; omega)] at this; exact this.symm)
      go_wp2_with fail
      refine bodyPost_ret (results_tmp2 rfl _ _ _) rfl ⟨by rw [HD.out]; rfl, H0.out.2⟩
set_option maxHeartbeats 1000000 in
theorem puint_any (l : List UInt8) (h12 : l.length = 12) (hc : ∀ c ∈ l, 48 ≤ c.toNat ∧ c.toNat ≤ 57) (w : World) : Calls Tryz.prog 56 #[Str l, .int .i64 10, .int .i64 62] w fun e w' => e = .returned (.tuple #[.int .u64 (decv l : Int), .nilIface]) ∧ Step [] [] w w' := by
  have HL := Lib.hid (And.intro h12 hc)
  clear h12 hc
  go_enter Tryz.func56, Tryz.ntmps56
  go_wp2_with fail
  refine (puint_in l HL.out.1 HL.out.2 w).mono ?_
  rintro e w1 ⟨rfl, st⟩
  have H0 := Lib.hid st
  clear st
  go_wp2_with fail
  exact bodyPost_ret (results_tmp2 rfl _ _ _) rfl ⟨rfl, H0.out⟩
set_option maxHeartbeats 1000000 in
theorem wnumber_any (n : Nat) (hn : n ≤ 999999999999) (w : World) : Calls Tryz.prog 41 #[Str (fileW n)] w fun e w' => e = .returned (.int .i64 n) ∧ Step [] [] w w' := by
  obtain ⟨l, hl⟩ : ∃ l, l = digs 12 n := ⟨_, rfl⟩
  have hf : fileW n = 119 :: l := by rw [hl]; rfl
  have h12 : l.length = 12 := by rw [hl, digs_len]
  have hc : ∀ c ∈ l, 48 ≤ c.toNat ∧ c.toNat ≤ 57 := by rw [hl]; exact digs_range 12 n
  have hv : decv l = n := by rw [hl, decv_digs]; omega
  rw [hf]
  have HL := Lib.hid (And.intro h12 (And.intro hc hv))
  have h13 : (119 :: l).length = 13 := by simp [h12]
  have hd13 : (((119 :: l).length : Int) != 13) = false := by rw [h13]; rfl
  have hd13' : (((119 :: l).length : Int) == 13) = true := by rw [h13]; rfl
  have hd13n : decide ((((119 :: l).length : Nat) : Int) = 13) = true := by rw [h13]; rfl
  have hll : l.length ≤ 12 := by omega
  have hln : decide ((l.length : Int) + 1 = 13) = true := by rw [h12]; rfl
  have hlm : (((l.length : Int) + 1) != 13) = false := by rw [h12]; rfl
  clear h12 hc hv hf hl h13
  go_enter Tryz.func41, Tryz.ntmps41
  go_upto_region 3 with fail
  go_wp2_with fail
  refine (puint_any l HL.out.1 HL.out.2.1 w).mono ?_
  rintro e w1 ⟨rfl, st⟩
  have H0 := Lib.hid st
  clear st
  rw [HL.out.2.2]
  go_wp2_with fail
  exact bodyPost_ret (results_tmp rfl _ _ _) rfl ⟨rfl, H0.out⟩

end Go.Proofs.YtnkbphecabnnaaaGreatDoor
