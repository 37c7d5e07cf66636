/-
 req's wrong: is a number of a flat form none of layer 3's? Condition: at most 2^20 compares and acts.
-/
import Derived.Test.YtjfaplmojpldhaaZReqC
import Derived.Test.YtjfaplmojpldhaaZReqG
namespace Go.Proofs.Ytjfaplmojpldhaa
open Go.RowKit
set_option linter.unusedSimpArgs false
set_option linter.unusedVariables false
set_option maxRecDepth 100000

theorem Try.info_int : (Try.prog.info? 3).map (fun i => (i.zero, i.size, i.bytes)) = some (some (.int .i64 0), 1, 8) := by kernel_rfl
def cpNums (c : Cp) : List Int := [c.what, c.rev]
def daNums (d : Da) : List Int := [d.rev, d.most]
def numsC (x : Cm) : List Int := [x.bytes, x.keys, x.rev] ++ x.ifs.flatMap cpNums ++ (x.thens ++ x.elses).flatMap daNums
def wrongC (x : Cm) : Bool := (numsC x).any bigN
structure LenS (x : Cm) : Prop where
 i : x.ifs.length ≤ 1048576
 t : x.thens.length ≤ 1048576
 e : x.elses.length ≤ 1048576
theorem intsV_app (l m : List Int) : intsV (l ++ m) = intsV l ++ intsV m := by simp [intsV]
theorem intsV_one (l : List Int) : ∀ u ∈ intsV l, u.oneCell' = true := by
 intro u hu
 obtain ⟨n, _, rfl⟩ := List.mem_map.1 hu
 rfl
theorem fm_take {α : Type} (f : α → List Int) (l : List α) (k : Nat) (x : α) (h : l[k]? = some x) : (l.take (k + 1)).flatMap f = (l.take k).flatMap f ++ f x := by simp [List.take_add_one, h]
theorem fm_len {α : Type} (f : α → List Int) (hf : ∀ x, (f x).length = 2) (l : List α) : (l.flatMap f).length = 2 * l.length := by
 induction l with
 | nil => rfl
 | cons a l ih => simp [hf, ih]; omega
set_option maxHeartbeats 8000000 in
theorem wrong_any (x : Cm) (a1 a2 a3 : Option Addr) (c1 c2 c3 : Nat) (w : World) (hr : RdC w x a1 a2 a3) (hl : LenS x) :
  Calls Try.prog 65 #[cmV x (.slice a1 x.ifs.length c1) (.slice a2 x.thens.length c2) (.slice a3 x.elses.length c3)] w fun e w' => e = .returned (.bool (wrongC x)) ∧ Step [] [] w w' := by
 have H0 : Hid (RdC (w.alloc (.cells #[.int .i64 x.client, .int .i64 x.seq, .string ⟨x.token.toArray⟩, .int .i64 x.kind, .string ⟨x.name.toArray⟩, .string ⟨x.other.toArray⟩, .string ⟨x.word.toArray⟩, .string ⟨x.salt.toArray⟩, .int .i64 x.bytes, .int .i64 x.keys, .string ⟨x.gf.toArray⟩, .string ⟨x.gt.toArray⟩, .bool x.gr, .bool x.gw, .int .i64 x.rev, .slice a1 x.ifs.length c1, .slice a2 x.thens.length c2, .slice a3 x.elses.length c3] 44)) x a1 a2 a3 ∧ Step [] [] w (w.alloc (.cells #[.int .i64 x.client, .int .i64 x.seq, .string ⟨x.token.toArray⟩, .int .i64 x.kind, .string ⟨x.name.toArray⟩, .string ⟨x.other.toArray⟩, .string ⟨x.word.toArray⟩, .string ⟨x.salt.toArray⟩, .int .i64 x.bytes, .int .i64 x.keys, .string ⟨x.gf.toArray⟩, .string ⟨x.gt.toArray⟩, .bool x.gr, .bool x.gw, .int .i64 x.rev, .slice a1 x.ifs.length c1, .slice a2 x.thens.length c2, .slice a3 x.elses.length c3] 44)) ∧ Blk (w.alloc (.cells #[.int .i64 x.client, .int .i64 x.seq, .string ⟨x.token.toArray⟩, .int .i64 x.kind, .string ⟨x.name.toArray⟩, .string ⟨x.other.toArray⟩, .string ⟨x.word.toArray⟩, .string ⟨x.salt.toArray⟩, .int .i64 x.bytes, .int .i64 x.keys, .string ⟨x.gf.toArray⟩, .string ⟨x.gt.toArray⟩, .bool x.gr, .bool x.gw, .int .i64 x.rev, .slice a1 x.ifs.length c1, .slice a2 x.thens.length c2, .slice a3 x.elses.length c3] 44)) w.heap.size 44 #[.int .i64 x.client, .int .i64 x.seq, .string ⟨x.token.toArray⟩, .int .i64 x.kind, .string ⟨x.name.toArray⟩, .string ⟨x.other.toArray⟩, .string ⟨x.word.toArray⟩, .string ⟨x.salt.toArray⟩, .int .i64 x.bytes, .int .i64 x.keys, .string ⟨x.gf.toArray⟩, .string ⟨x.gt.toArray⟩, .bool x.gr, .bool x.gw, .int .i64 x.rev, .slice a1 x.ifs.length c1, .slice a2 x.thens.length c2, .slice a3 x.elses.length c3]) := ⟨hr.step ((Step.refl [] w).alloc _), (Step.refl [] w).alloc _, Blk.new w _ _⟩
 have HLI := hl.i
 have HLT := hl.t
 have HLE := hl.e
 clear hr hl
 obtain ⟨i0, hi, hz0, hz1, hz2⟩ := info_parts Try.info_int
 have HI := Lib.hid (And.intro hi (And.intro hz0 (And.intro hz1 hz2)))
 clear hi hz0 hz1 hz2
 go_enter Try.func65, Try.ntmps65
 go_upto_region 1 with fail
 obtain ⟨b, hb⟩ : ∃ b, b = w.heap.size := ⟨_, rfl⟩
 obtain ⟨V, hV⟩ : ∃ V, V = w.alloc (.cells #[.int .i64 x.client, .int .i64 x.seq, .string ⟨x.token.toArray⟩, .int .i64 x.kind, .string ⟨x.name.toArray⟩, .string ⟨x.other.toArray⟩, .string ⟨x.word.toArray⟩, .string ⟨x.salt.toArray⟩, .int .i64 x.bytes, .int .i64 x.keys, .string ⟨x.gf.toArray⟩, .string ⟨x.gt.toArray⟩, .bool x.gr, .bool x.gw, .int .i64 x.rev, .slice a1 x.ifs.length c1, .slice a2 x.thens.length c2, .slice a3 x.elses.length c3] 44) := ⟨_, rfl⟩
 rw [← hV, ← hb] at H0
 rw [← hV, ← hb]
 clear hV hb
 have mc := (H0.out.2.2).cell
 have m0 := mc 0
 have m1 := mc 1
 have m2 := mc 2
 have m3 := mc 3
 have m4 := mc 4
 have m5 := mc 5
 have m6 := mc 6
 have m7 := mc 7
 have m8 := mc 8
 have m9 := mc 9
 have m10 := mc 10
 have m11 := mc 11
 have m12 := mc 12
 have m13 := mc 13
 have m14 := mc 14
 have m15 := mc 15
 have m16 := mc 16
 have m17 := mc 17
 clear mc
 simp only [List.getElem?_toArray, List.getElem?_cons_zero, List.getElem?_cons_succ] at m0 m1 m2 m3 m4 m5 m6 m7 m8 m9 m10 m11 m12 m13 m14 m15 m16 m17
 have ml := (H0.out.2.2).lt
 go_upto_region 2 with fail
 obtain ⟨g0, hg0⟩ : ∃ g, g = V.heap.size := ⟨_, rfl⟩
 obtain ⟨V1, hV1⟩ : ∃ V1, V1 = V.alloc (.cells #[.int .i64 x.bytes, .int .i64 x.keys, .int .i64 x.rev] 3) := ⟨_, rfl⟩
 have H1 : Hid (Row V1 1 (some ⟨g0, 0, none⟩) 3 3 (intsV ([x.bytes, x.keys, x.rev] ++ (x.ifs.take 0).flatMap cpNums)) ∧ Step [] [g0] V V1) := by
  rw [hV1, hg0]
  exact ⟨row_blk' (xs := intsV [x.bytes, x.keys, x.rev]) (Blk.new V 3 _) 1 3 rfl (by unfold maxLen; omega), ((Step.refl [] V).hold _).drop (by simp)⟩
 rw [← hV1, ← hg0]
 clear hV1 hg0
 have HB1 := Lib.hid (H0.out.2.2.step H1.out.2 (by simp))
 clear m0 m1 m2 m3 m4 m5 m6 m7 m8 m9 m10 m11 m12 m13 m14 m15 m16 m17 ml
 have mc := (HB1.out).cell
 have m0 := mc 0
 have m1 := mc 1
 have m2 := mc 2
 have m3 := mc 3
 have m4 := mc 4
 have m5 := mc 5
 have m6 := mc 6
 have m7 := mc 7
 have m8 := mc 8
 have m9 := mc 9
 have m10 := mc 10
 have m11 := mc 11
 have m12 := mc 12
 have m13 := mc 13
 have m14 := mc 14
 have m15 := mc 15
 have m16 := mc 16
 have m17 := mc 17
 clear mc
 simp only [List.getElem?_toArray, List.getElem?_cons_zero, List.getElem?_cons_succ] at m0 m1 m2 m3 m4 m5 m6 m7 m8 m9 m10 m11 m12 m13 m14 m15 m16 m17
 have ml := (HB1.out).lt
 go_wp2_with fail
 clear m0 m1 m2 m3 m4 m5 m6 m7 m8 m9 m10 m11 m12 m13 m14 m15 m16 m17 ml
 go_loopw [3, 18] (fun s i W => ∃ (k : Nat) (bb : Option Addr) (cc : Nat), i = .int .i64 k ∧ k ≤ x.ifs.length ∧ s = .slice bb (3 + 2 * k) cc ∧ Hid (Row W 1 bb (3 + 2 * k) cc (intsV ([x.bytes, x.keys, x.rev] ++ (x.ifs.take k).flatMap cpNums)) ∧ Step [] (blks bb) V W)) (fun _ i _ => x.ifs.length - (intOf i).toNat)
 case atStart => exact ⟨0, some ⟨g0, 0, none⟩, 3, rfl, by omega, rfl, H1.out.1, by simpa [blks] using H1.out.2⟩
 case round =>
  clear H1 HB1
  rename World => W
  obtain ⟨k, bb, cc, rfl, hk, rfl, HW⟩ := hrel
  by_cases hlt : k < x.ifs.length
  ·have hlt' : (k : Int) < x.ifs.length := by omega
   obtain ⟨d, hd⟩ : ∃ d, x.ifs[k]? = some d := ⟨_, List.getElem?_eq_getElem hlt⟩
   have hrd := H0.out.1.i.step0 HW.out.2
   obtain ⟨g, off, hsa⟩ := hrd.some_ (by omega)
   subst hsa
   have cd := rd_cp hrd hd
   have gl : g < W.heap.size := by have := World.block_lt_of_cell? _ _ cd.1; simpa using this
   have HX := Lib.hid hd
   clear hd hrd
   obtain ⟨eb, heb⟩ : ∃ eb, eb = (W.alloc (.cells (cpc d).toArray 110)).heap.size := ⟨_, rfl⟩
   obtain ⟨W2, hW2⟩ : ∃ W2, W2 = (W.alloc (.cells (cpc d).toArray 110)).alloc (.cells #[.int .i64 d.what, .int .i64 d.rev] 3) := ⟨_, rfl⟩
   have H2 : Hid (Row W2 1 bb (3 + 2 * k) cc (intsV ([x.bytes, x.keys, x.rev] ++ (x.ifs.take k).flatMap cpNums)) ∧ Step [] (blks bb) V W2 ∧ Rd W2 1 (some ⟨eb, 0, none⟩) 2 (intsV (cpNums d))) := by
    rw [hW2, heb]
    exact ⟨(HW.out.1.alloc _).alloc _, (HW.out.2.alloc _).alloc _, rd_blk' (xs := intsV (cpNums d)) (Blk.new _ 3 _) 1 2 rfl⟩
   have HW2 := Lib.hid hW2
   have HEB := Lib.hid heb
   clear hW2 heb
   go_upto_region 6 with (at_builtin; first | (rw [show (W.alloc (.cells #[.string ⟨d.key.toArray⟩, .int .i64 d.what, .int .i64 d.rev, .string ⟨d.val.toArray⟩] 110)).alloc (.cells #[.int .i64 d.what, .int .i64 d.rev] 3) = W2 from HW2.out.symm, show W.heap.size + 1 = eb by rw [HEB.out]; simp]) | skip; refine wpList_append_row rfl (.tmp 22) (.tmp 27) 31 31 rfl 3 i0 _ 1 8 Try.underlying31 HI.out.1 HI.out.2.1 HI.out.2.2.1 HI.out.2.2.2 rfl rfl H2.out.1 rfl (Src.rd 31 3 Try.underlying31 H2.out.2.2 (intsV_one _)) (by unfold maxLen; omega) (by omega) (by omega) ?_; intro a9 c9 w9 hr9 st9; rw [← intsV_app, List.append_assoc, ← fm_take cpNums x.ifs k d HX.out] at hr9; have H9 : Hid (Row w9 1 a9 (3 + 2 * (k + 1)) c9 (intsV ([x.bytes, x.keys, x.rev] ++ (x.ifs.take (k + 1)).flatMap cpNums)) ∧ Step [] (blks a9) V w9) := ⟨hr9, H2.out.2.1.trans st9⟩; clear hr9 st9)
   clear cd gl H2 HW
   go_wp2_with fail
   go_roundw
   case rel => exact ⟨k + 1, a9, c9, by go_num, by omega, rfl, H9.out⟩
   case measure => simp [intOf]; omega
  ·obtain rfl : k = x.ifs.length := by omega
   have HB2 := Lib.hid (H0.out.2.2.step HW.out.2 (by simp))
   have mc := (HB2.out).cell
   have m0 := mc 0
   have m1 := mc 1
   have m2 := mc 2
   have m3 := mc 3
   have m4 := mc 4
   have m5 := mc 5
   have m6 := mc 6
   have m7 := mc 7
   have m8 := mc 8
   have m9 := mc 9
   have m10 := mc 10
   have m11 := mc 11
   have m12 := mc 12
   have m13 := mc 13
   have m14 := mc 14
   have m15 := mc 15
   have m16 := mc 16
   have m17 := mc 17
   clear mc
   simp only [List.getElem?_toArray, List.getElem?_cons_zero, List.getElem?_cons_succ] at m0 m1 m2 m3 m4 m5 m6 m7 m8 m9 m10 m11 m12 m13 m14 m15 m16 m17
   have ml := (HB2.out).lt
   have HR0 : Hid (Row W 1 bb (3 + 2 * x.ifs.length) cc (intsV ([x.bytes, x.keys, x.rev] ++ x.ifs.flatMap cpNums))) := Lib.hid (by have := HW.out.1; rwa [List.take_length] at this)
   obtain ⟨gd, hgd⟩ : ∃ g, g = W.heap.size := ⟨_, rfl⟩
   obtain ⟨W3, hW3⟩ : ∃ W3, W3 = W.alloc (.cells #[.slice a2 x.thens.length c2, .slice a3 x.elses.length c3] 42) := ⟨_, rfl⟩
   have H3 : Hid (Row W3 1 bb (3 + 2 * x.ifs.length) cc (intsV ([x.bytes, x.keys, x.rev] ++ x.ifs.flatMap cpNums)) ∧ Step [] (blks bb) V W3 ∧ Blk W3 gd 42 #[.slice a2 x.thens.length c2, .slice a3 x.elses.length c3]) := by
    rw [hW3, hgd]
    exact ⟨HR0.out.alloc _, HW.out.2.alloc _, Blk.new _ _ _⟩
   go_wp2_with fail
   rw [← hW3, ← hgd]
   clear hW3 hgd HW HR0
   clear m0 m1 m2 m3 m4 m5 m6 m7 m8 m9 m10 m11 m12 m13 m14 m15 m16 m17 ml
   refine (concat_any x.thens x.elses a2 a3 c2 c3 gd W3 H3.out.2.2 (H0.out.1.t.step0 H3.out.2.1) (H0.out.1.e.step0 H3.out.2.1) (by omega) (by omega)).mono ?_
   rintro e W4 ⟨ad, cd, rfl, rd4, k4⟩
   obtain ⟨ds, hds⟩ : ∃ ds, ds = x.thens ++ x.elses := ⟨_, rfl⟩
   have hdl : ds.length = x.thens.length + x.elses.length := by rw [hds, List.length_append]
   rw [← hds, ← hdl] at rd4
   rw [← hdl]
   have H4 : Hid (Row W4 1 bb (3 + 2 * x.ifs.length + 2 * 0) cc (intsV ([x.bytes, x.keys, x.rev] ++ x.ifs.flatMap cpNums ++ (ds.take 0).flatMap daNums)) ∧ Step [] (blks bb) V W4 ∧ Rd W4 7 ad ds.length (dacs ds) ∧ ds = x.thens ++ x.elses ∧ (∀ j ∈ blks ad, j ∉ blks bb)) := by
    refine ⟨by simpa using H3.out.1.step k4 (by simp), ?_, rd4, hds, fun j hj hm => by have h1 := H3.out.1.lt j hm; rcases k4.fresh j hj with h | h; cases h; omega⟩
    have := H3.out.2.1.trans (by simpa using k4.frame (blks bb))
    exact this.drop (by intro k hk; simp [hk])
   have hdb : ds.length ≤ 2097152 := by omega
   clear rd4 k4 hds hdl H3
   go_wp2_with fail
   go_loopw [3, 37] (fun s i W => ∃ (k : Nat) (bb : Option Addr) (cc : Nat), i = .int .i64 k ∧ k ≤ ds.length ∧ s = .slice bb (3 + 2 * x.ifs.length + 2 * k) cc ∧ Hid (Row W 1 bb (3 + 2 * x.ifs.length + 2 * k) cc (intsV ([x.bytes, x.keys, x.rev] ++ x.ifs.flatMap cpNums ++ (ds.take k).flatMap daNums)) ∧ Step [] (blks bb) V W ∧ Rd W 7 ad ds.length (dacs ds) ∧ (∀ j ∈ blks ad, j ∉ blks bb))) (fun _ i _ => ds.length - (intOf i).toNat)
   case atStart => exact ⟨0, bb, cc, rfl, by omega, rfl, H4.out.1, H4.out.2.1, H4.out.2.2.1, H4.out.2.2.2.2⟩
   case round =>
    have HDS := Lib.hid H4.out.2.2.2.1
    clear H4
    rename World => W
    obtain ⟨k, bb, cc, rfl, hk, rfl, HW⟩ := hrel
    by_cases hlt : k < ds.length
    ·have hlt' : (k : Int) < ds.length := by omega
     obtain ⟨d, hd⟩ : ∃ d, ds[k]? = some d := ⟨_, List.getElem?_eq_getElem hlt⟩
     have hrd := HW.out.2.2.1
     obtain ⟨g, off, hsa⟩ := hrd.some_ (by omega)
     subst hsa
     have cd := rd_da hrd hd
     have gl : g < W.heap.size := by have := World.block_lt_of_cell? _ _ cd.1; simpa using this
     have HX := Lib.hid hd
     clear hd hrd
     obtain ⟨eb, heb⟩ : ∃ eb, eb = (W.alloc (.cells (dac d).toArray 108)).heap.size := ⟨_, rfl⟩
     obtain ⟨W2, hW2⟩ : ∃ W2, W2 = (W.alloc (.cells (dac d).toArray 108)).alloc (.cells #[.int .i64 d.rev, .int .i64 d.most] 3) := ⟨_, rfl⟩
     have H2 : Hid (Row W2 1 bb (3 + 2 * x.ifs.length + 2 * k) cc (intsV ([x.bytes, x.keys, x.rev] ++ x.ifs.flatMap cpNums ++ (ds.take k).flatMap daNums)) ∧ Step [] (blks bb) V W2 ∧ Rd W2 1 (some ⟨eb, 0, none⟩) 2 (intsV (daNums d)) ∧ Rd W2 7 (some ⟨g, off, none⟩) ds.length (dacs ds) ∧ g ∉ blks bb ∧ g < W2.heap.size) := by
      rw [hW2, heb]
      exact ⟨(HW.out.1.alloc _).alloc _, (HW.out.2.1.alloc _).alloc _, rd_blk' (xs := intsV (daNums d)) (Blk.new _ 3 _) 1 2 rfl, (HW.out.2.2.1.alloc _).alloc _, HW.out.2.2.2 g (by simp [blks]), by simp; omega⟩
     have HW2 := Lib.hid hW2
     have HEB := Lib.hid heb
     clear hW2 heb
     go_upto_region 11 with (at_builtin; first | (rw [show (W.alloc (.cells #[.int .i64 d.kind, .string ⟨d.fr.toArray⟩, .string ⟨d.to_.toArray⟩, .string ⟨d.key.toArray⟩, .string ⟨d.val.toArray⟩, .int .i64 d.rev, .int .i64 d.most] 108)).alloc (.cells #[.int .i64 d.rev, .int .i64 d.most] 3) = W2 from HW2.out.symm, show W.heap.size + 1 = eb by rw [HEB.out]; simp]) | skip; refine wpList_append_row rfl (.tmp 41) (.tmp 46) 31 31 rfl 3 i0 _ 1 8 Try.underlying31 HI.out.1 HI.out.2.1 HI.out.2.2.1 HI.out.2.2.2 rfl rfl H2.out.1 rfl (Src.rd 31 3 Try.underlying31 H2.out.2.2.1 (intsV_one _)) (by unfold maxLen; omega) (by omega) (by omega) ?_; intro a9 c9 w9 hr9 st9; rw [← intsV_app, List.append_assoc, ← fm_take daNums ds k d HX.out] at hr9; have H9 : Hid (Row w9 1 a9 (3 + 2 * x.ifs.length + 2 * (k + 1)) c9 (intsV ([x.bytes, x.keys, x.rev] ++ x.ifs.flatMap cpNums ++ (ds.take (k + 1)).flatMap daNums)) ∧ Step [] (blks a9) V w9 ∧ Rd w9 7 (some ⟨g, off, none⟩) ds.length (dacs ds) ∧ (∀ j ∈ blks (some ⟨g, off, none⟩), j ∉ blks a9)) := ⟨hr9, H2.out.2.1.trans st9, H2.out.2.2.2.1.step st9 (fun j hj => by simp [blks] at hj; subst hj; exact H2.out.2.2.2.2.1), fun j hj => by simp [blks] at hj; subst hj; exact st9.notin H2.out.2.2.2.2.2 H2.out.2.2.2.2.1⟩; clear hr9 st9)
     clear cd gl H2 HW
     go_wp2_with fail
     go_roundw
     case rel => exact ⟨k + 1, a9, c9, by go_num, by omega, rfl, H9.out⟩
     case measure => simp [intOf]; omega
    ·obtain rfl : k = ds.length := by omega
     have HF : Hid (Rd W 1 bb (numsC x).length (intsV (numsC x)) ∧ (numsC x).length = 3 + 2 * x.ifs.length + 2 * ds.length) := by
      have e1 : (numsC x).length = 3 + 2 * x.ifs.length + 2 * ds.length := by
       rw [HDS.out]
       simp only [numsC, List.length_append, fm_len cpNums (fun _ => rfl), fm_len daNums (fun _ => rfl), List.length_cons, List.length_nil]
      refine ⟨?_, e1⟩
      have := HW.out.1.rd
      rw [List.take_length] at this
      rw [e1, numsC, ← HDS.out]
      exact this
     have HC := containsF_any (numsC x) bb cc W HF.out.1 (by rw [HF.out.2]; omega)
     rw [HF.out.2] at HC
     have HS9 := Lib.hid (H0.out.2.1.trans (HW.out.2.1.drop (S'' := []) (by simp)))
     clear HW
     go_wp2_with fail
     refine HC.mono ?_
     rintro e W9 ⟨rfl, rfl⟩
     clear HC
     go_wp2_with fail
     exact bodyPost_ret (results_tmp rfl _ _ _) rfl ⟨rfl, HS9.out⟩
end Go.Proofs.Ytjfaplmojpldhaa
