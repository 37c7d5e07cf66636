/-
 wal.read: the record of a frame. Condition: a text of at most 2^23 bytes.
-/
import Derived.Test.YtnkbphecabnnaaaGreatDoorZGB
import Derived.Test.YtnkbphecabnnaaaGreatDoorZGN
import Derived.Test.YtnkbphecabnnaaaGreatDoorZShL
import Derived.Test.YtnkbphecabnnaaaGreatDoorZGT
namespace Go.Proofs.YtnkbphecabnnaaaGreatDoor
open Go.RowKit Go.Lib
set_option linter.unusedSimpArgs false
set_option linter.unusedVariables false
set_option maxRecDepth 100000

theorem Tryz.sRec : StructOf Tryz.prog 45 5 := ⟨by kernel_rfl, _, Tryz.underlying45⟩
theorem take4 {l : List UInt8} (h : 4 ≤ l.length) : ∃ a b c d, l.take 4 = [a, b, c, d] := by
 match l, h with
 | a :: b :: c :: d :: r, _ => exact ⟨a, b, c, d, rfl⟩
theorem val4_inj {p q r s a b c d : UInt8} (h : val [p, q, r, s] = val [a, b, c, d]) : [p, q, r, s] = [a, b, c, d] := by
 have := p.toNat_lt; have := q.toNat_lt; have := r.toNat_lt; have := s.toNat_lt
 have := a.toNat_lt; have := b.toNat_lt; have := c.toNat_lt; have := d.toNat_lt
 simp only [val, List.foldl_cons, List.foldl_nil] at h
 rw [UInt8.toNat.inj (show p.toNat = a.toNat by omega), UInt8.toNat.inj (show q.toNat = b.toNat by omega), UInt8.toNat.inj (show r.toNat = c.toNat by omega), UInt8.toNat.inj (show s.toNat = d.toNat by omega)]
theorem be4_fourW {x : Wd} {a b c d : UInt8} : be4 x = [a, b, c, d] ↔ x = fourW a b c d := by
 constructor
 ·intro h
  refine BitVec.eq_of_toNat_eq ?_
  rw [← val_be4, h, fourW_val]
 ·rintro rfl
  exact val4_inj ((val_be4 _).trans (fourW_val a b c d))
def RdP7 (s : List UInt8) (k : Nat) (w : World) (e : Ending) (w' : World) : Prop := (match frB (s.drop k) with
 | some (r, n) => e = .returned (.tuple #[rcV r, .int .i64 ((k + n : Nat) : Int), .bool true])
 | none => ∃ (r : Rc) (nx : Int), e = .returned (.tuple #[rcV r, .int .i64 nx, .bool false])) ∧ Step [] [] w w'
set_option maxHeartbeats 4000000 in
theorem wread_any (s : List UInt8) (k : Nat) (hk : k ≤ s.length) (hs : s.length ≤ 8388608) (w : World) : Calls Tryz.prog 46 #[Str s, .int .i64 (k : Int)] w (RdP7 s k w) := by
 go_enter Tryz.func46, Tryz.ntmps46
 go_upto_region 2 with fail
 obtain ⟨rb, hrb⟩ : ∃ rb, rb = w.heap.size := ⟨_, rfl⟩
 obtain ⟨V, hV⟩ : ∃ V, V = (w.alloc (.cells (rcc rc0).toArray 45)).alloc (.cells (rcc rc0).toArray 45) := ⟨_, rfl⟩
 have H0 : Hid (Blk V rb 45 (rcc rc0).toArray ∧ Blk V (rb + 1) 45 (rcc rc0).toArray ∧ Step [] [rb + 1, rb] w V) := by
  have h1 : (w.alloc (.cells (rcc rc0).toArray 45)).heap.size = w.heap.size + 1 := by simp
  have b1 := Blk.new (w.alloc (.cells (rcc rc0).toArray 45)) 45 (rcc rc0).toArray
  have k1 := ((Step.refl [] w).hold (.cells (rcc rc0).toArray 45)).hold (.cells (rcc rc0).toArray 45)
  rw [h1] at b1 k1
  subst hV hrb
  exact ⟨(Blk.new w _ _).alloc _, b1, k1⟩
 change Code.wp _ _ _ _ ((w.alloc (.cells (rcc rc0).toArray 45)).alloc (.cells (rcc rc0).toArray 45))
 rw [← hV]
 try rw [← hrb]
 obtain ⟨xb, hxb⟩ : ∃ xb, xb = rb + 1 := ⟨_, rfl⟩
 try rw [← hxb]
 rw [← hxb] at H0
 have hne : rb ≠ xb := by omega
 have HNE := Lib.hid hne
 clear hV hrb hxb hne
 obtain ⟨L, hL⟩ : ∃ L, L = s.length := ⟨_, rfl⟩
 have HL := Lib.hid hL
 have fc := H0.out.2.1.cell
 have f0 := fc 0
 have f1 := fc 1
 have f2 := fc 2
 have f3 := fc 3
 have f4 := fc 4
 clear fc
 simp only [rcc, List.getElem?_toArray, List.getElem?_cons_zero, List.getElem?_cons_succ] at f0 f1 f2 f3 f4
 clear hL
 by_cases h8 : s.length < k + 8
 ·have hd : decide ((s.length : Int) - (k : Int) < 8) = true := decide_eq_true (by omega)
  have HF : Hid (frB (s.drop k) = none) := Lib.hid (by unfold frB; rw [if_pos (by rw [List.length_drop]; omega)])
  go_wp2_with (refine wpList_storeRow (T := 45) (b := rb) (T' := 45) (cs := (rcc rc0).toArray) (vs := (rcc rc0).toArray) rfl (.tmp 4) (.tmp 16) rfl rfl rfl Tryz.sRec H0.out.1 rfl (rcc_one rc0) ?_; intro U ub uk)
  refine bodyPost_ret (res_row3 rfl _ rfl Tryz.sRec ub) rfl ?_
  exact ⟨by rw [HF.out]; exact ⟨rc0, _, rfl⟩, (H0.out.2.2.trans (uk.wide (T := [xb, rb]) (S'' := [xb, rb]) (by simp) (by intro j hj; exact .inl hj))).drop (by simp)⟩
 have hd : decide ((s.length : Int) - (k : Int) < 8) = false := decide_eq_false (by omega)
 go_wp2_with fail
 clear hd f0 f1 f2 f3 f4
 obtain ⟨a, b, c, d, h4⟩ := take4 (l := s.drop k) (by rw [List.length_drop]; omega)
 have H4 := Lib.hid h4
 rw [h4]
 refine (fromFour_any a b c d V).mono ?_
 rintro e w1 ⟨rfl, n1, hw1⟩
 have H1 : Hid (Blk w1 rb 45 (rcc rc0).toArray ∧ Blk w1 xb 45 (rcc rc0).toArray ∧ Step [] [xb, rb] w w1) := by
  subst hw1
  exact ⟨H0.out.1.step ((Step.refl [] V).drewN n1) (by simp), H0.out.2.1.step ((Step.refl [] V).drewN n1) (by simp), H0.out.2.2.drewN n1⟩
 clear hw1 H0 h4
 rw [fourW_val]
 obtain ⟨n, hn⟩ : ∃ n, n = val [a, b, c, d] := ⟨_, rfl⟩
 have HNV : Hid (val ((s.drop k).take 4) = n) := Lib.hid (by rw [H4.out, hn])
 have hnl : n < 4294967296 := by rw [hn, ← fourW_val]; exact (fourW a b c d).isLt
 rw [← hn]
 clear hn
 have fc := H1.out.2.1.cell
 have f0 := fc 0
 have f1 := fc 1
 have f2 := fc 2
 have f3 := fc 3
 have f4 := fc 4
 clear fc
 simp only [rcc, List.getElem?_toArray, List.getElem?_cons_zero, List.getElem?_cons_succ] at f0 f1 f2 f3 f4
 by_cases hbig : (262144 : Int) < (n : Int)
 ·have hd : decide ((262144 : Int) < (n : Int)) = true := decide_eq_true hbig
  have HF : Hid (frB (s.drop k) = none) := Lib.hid (by unfold frB; rw [if_neg (by rw [List.length_drop]; omega), HNV.out, if_pos (.inl (by omega))])
  clear hbig
  go_wp2_with (refine wpList_storeRow (T := 45) (b := rb) (T' := 45) (cs := (rcc rc0).toArray) (vs := (rcc rc0).toArray) rfl (.tmp 4) (.tmp 36) rfl rfl rfl Tryz.sRec H1.out.1 rfl (rcc_one rc0) ?_; intro U ub uk)
  refine bodyPost_ret (res_row3 rfl _ rfl Tryz.sRec ub) rfl ?_
  exact ⟨by rw [HF.out]; exact ⟨rc0, _, rfl⟩, (H1.out.2.2.trans (uk.wide (T := [xb, rb]) (S'' := [xb, rb]) (by simp) (by intro j hj; exact .inl hj))).drop (by simp)⟩
 have hd : decide ((262144 : Int) < (n : Int)) = false := decide_eq_false hbig
 by_cases hshort : (s.length : Int) - (k : Int) - 8 < (n : Int)
 ·have hd2 : decide ((s.length : Int) - (k : Int) - 8 < (n : Int)) = true := decide_eq_true hshort
  have HF : Hid (frB (s.drop k) = none) := Lib.hid (by unfold frB; rw [if_neg (by rw [List.length_drop]; omega), HNV.out, if_pos (.inr (by rw [List.length_drop]; omega))])
  clear hbig hshort
  go_wp2_with (refine wpList_storeRow (T := 45) (b := rb) (T' := 45) (cs := (rcc rc0).toArray) (vs := (rcc rc0).toArray) rfl (.tmp 4) (.tmp 36) rfl rfl rfl Tryz.sRec H1.out.1 rfl (rcc_one rc0) ?_; intro U ub uk)
  refine bodyPost_ret (res_row3 rfl _ rfl Tryz.sRec ub) rfl ?_
  exact ⟨by rw [HF.out]; exact ⟨rc0, _, rfl⟩, (H1.out.2.2.trans (uk.wide (T := [xb, rb]) (S'' := [xb, rb]) (by simp) (by intro j hj; exact .inl hj))).drop (by simp)⟩
 have hd2 : decide ((s.length : Int) - (k : Int) - 8 < (n : Int)) = false := decide_eq_false hshort
 have hfit : k + 8 + n ≤ s.length := by omega
 have hn262 : n ≤ 262144 := by omega
 have hfi : (k : Int) + 8 + (n : Int) ≤ (s.length : Int) := by omega
 clear hbig hshort
 clear f0 f1 f2 f3 f4
 go_upto_region 8 with fail
 clear hd hd2
 obtain ⟨bd, hbd⟩ : ∃ bd, bd = List.take (k + 8 + n - (k + 8)) (List.drop (k + 8) s) := ⟨_, rfl⟩
 have HBD : Hid (bd = ((s.drop k).drop 8).take n) := Lib.hid (by rw [hbd, List.drop_drop, show k + 8 + n - (k + 8) = n by omega])
 have hbl0 : bd.length = n := by rw [hbd, List.length_take, List.length_drop]; omega
 have HBL := Lib.hid hbl0
 have hbl : bd.length ≤ 8388608 := by omega
 clear hbl0
 rw [← hbd]
 clear hbd
 obtain ⟨a', b', c', d', h44⟩ := take4 (l := (s.drop k).drop 4) (by rw [List.length_drop, List.length_drop]; omega)
 have H44 := Lib.hid h44
 have h45 : List.take 4 (List.drop (k + 4) s) = [a', b', c', d'] := by rw [← h44, List.drop_drop]
 have H45 := Lib.hid h45
 clear h44 h45
 have HV := Lib.hid (H1.out.1.step ((Step.refl [] w1).drew) (by simp))
 obtain ⟨V2, hV2⟩ : ∃ V2, V2 = w1.drew := ⟨_, rfl⟩
 have H2 : Hid (Blk V2 rb 45 (rcc rc0).toArray ∧ Blk V2 xb 45 (rcc rc0).toArray ∧ Step [] [xb, rb] w V2) := by
  subst hV2
  exact ⟨H1.out.1.step ((Step.refl [] w1).drew) (by simp), H1.out.2.1.step ((Step.refl [] w1).drew) (by simp), H1.out.2.2.drew⟩
 clear HV
 refine wp_region_held_drew (S := fun W => Hid (Blk W rb 45 (rcc rc0).toArray ∧ Blk W xb 45 (rcc rc0).toArray ∧ Step [] [xb, rb] w W)) (by kernel_rfl) (by rw [← hV2]; exact H2) (fun hHeld => ?_)
 rw [← hV2] at hHeld ⊢
 clear hV2
 refine wpAnyH_take (i := 0) (v := ?_) rfl (by kernel_rfl) (by kernel_rfl) (by kernel_rfl) (fun _ _ _ h => h) (Or.inl ⟨by rfl, ?_⟩) hHeld ?_
 rotate_left
 ·intro w hSw1
  try dsimp only at hSw1
  go_simp
  try (with_reducible rfl)
 try simp only [Act.put, LsA, LsB, LsC, LsD, LsE, LsF]
 refine wpAnyH_take (i := 3) (v := ?_) rfl (by kernel_rfl) (by kernel_rfl) (by kernel_rfl) (fun _ _ _ h => h) (Or.inl ⟨by rfl, ?_⟩) hHeld ?_
 rotate_left
 ·intro w hSw1
  try dsimp only at hSw1
  go_simp
  try (with_reducible rfl)
 try simp only [Act.put, LsA, LsB, LsC, LsD, LsE, LsF]
 refine wpAnyH_take (i := 4) (v := ?_) rfl (by kernel_rfl) (by kernel_rfl) (by kernel_rfl) (fun _ _ _ h => h) (Or.inl ⟨by rfl, ?_⟩) hHeld ?_
 rotate_left
 ·intro w hSw1
  try dsimp only at hSw1
  go_simp
  try (with_reducible rfl)
 try simp only [Act.put, LsA, LsB, LsC, LsD, LsE, LsF]
 refine wpAnyH_take (i := 5) (v := ?_) rfl (by kernel_rfl) (by kernel_rfl) (by kernel_rfl) (fun _ _ _ h => h) (Or.inl ⟨by rfl, ?_⟩) hHeld ?_
 rotate_left
 ·intro w hSw1
  have q : IntKind.i64.wrap ((k : Int) + 4) = (k : Int) + 4 := IntWalk.i64_in _ (by omega)
  go_simp
  try (with_reducible rfl)
 try simp only [Act.put, LsA, LsB, LsC, LsD, LsE, LsF]
 refine wpAnyH_take (i := 6) (v := ?_) rfl (by kernel_rfl) (by kernel_rfl) (by kernel_rfl) (fun _ _ _ h => h) (Or.inl ⟨by rfl, ?_⟩) hHeld ?_
 rotate_left
 ·intro w hSw1
  try dsimp only at hSw1
  go_simp
  try (with_reducible rfl)
 try simp only [Act.put, LsA, LsB, LsC, LsD, LsE, LsF]
 refine wpAnyH_take (i := 7) (v := ?_) rfl (by kernel_rfl) (by kernel_rfl) (by kernel_rfl) (fun _ _ _ h => h) (Or.inl ⟨by rfl, ?_⟩) hHeld ?_
 rotate_left
 ·intro w hSw1
  have q : IntKind.i64.wrap ((k : Int) + 8) = (k : Int) + 8 := IntWalk.i64_in _ (by omega)
  go_simp
  try (with_reducible rfl)
 try simp only [Act.put, LsA, LsB, LsC, LsD, LsE, LsF]
 refine wpAnyH_take (i := 8) (v := ?_) rfl (by kernel_rfl) (by kernel_rfl) (by kernel_rfl) (fun _ _ _ h => h) (Or.inl ⟨by rfl, ?_⟩) hHeld ?_
 rotate_left
 ·intro w hSw1
  have q1 : (0 : Int) ≤ (k : Int) + 8 := by omega
  have q2 : (k : Int) + 8 ≤ (s.length : Int) := by omega
  have q3 : (0 : Int) ≤ (k : Int) + 4 := by omega
  have q4 : (k : Int) + 4 ≤ (k : Int) + 8 := by omega
  go_simp
  try (with_reducible rfl)
 try simp only [Act.put, LsA, LsB, LsC, LsD, LsE, LsF]
 refine wpAnyH_ready (rs := [1]) (by kernel_rfl) (by simp) ?_
 refine AllReadyH.cons rfl (fun K hK => ?_) AllReadyH.nil
 go_simp
 obtain ⟨g, cap, w4, hcv, hrow, hst, hg⟩ := run_row_of_str (P := Tryz.prog) (w := V2) 9 22 5 bd Tryz.underlying9 Tryz.underlying22 Tryz.underlying5 (by unfold maxLen; omega); rw [hcv]; simp only [Result.andThen_ok]; have hst0 : Step [] [] V2 w4 := hst.drop (by simp); have HC := Lib.hid (And.intro (hHeld.out.1.step hst0 (by simp)) (And.intro (hHeld.out.2.1.step hst0 (by simp)) (hHeld.out.2.2.trans (hst0.keep _)))); have HRW := Lib.hid hrow; clear hst hst0 hrow hcv hg
 go_wp2_with fail
 refine hK.out _ _ (HC) (fun hHeld2 => ?_)
 clear hK K hHeld
 try simp only [Act.put, LsA, LsB, LsC, LsD, LsE, LsF]
 refine wpAnyH_ready (rs := [2]) (by kernel_rfl) (by simp) ?_
 refine AllReadyH.cons rfl (fun K hK => ?_) AllReadyH.nil
 go_simp
 refine (of_any _ _ _ bd w4 HRW.out.rd rfl (by omega)).mono ?_; rintro e5 w5 ⟨rfl, rfl⟩
 go_wp2_with fail
 refine hK.out _ _ (hHeld2) (fun hHeld3 => ?_)
 clear hK K hHeld2
 try simp only [Act.put, LsA, LsB, LsC, LsD, LsE, LsF]
 refine wpAnyH_ready (rs := [9]) (by kernel_rfl) (by simp) ?_
 refine AllReadyH.cons rfl (fun K hK => ?_) AllReadyH.nil
 go_simp
 rw [H45.out]; refine (fromFour_any a' b' c' d' w4).mono ?_; rintro e6 w6 ⟨rfl, n6, hw6⟩; have H6 : Hid (Blk w6 rb 45 (rcc rc0).toArray ∧ Blk w6 xb 45 (rcc rc0).toArray ∧ Step [] [xb, rb] w w6) := (by subst hw6; exact ⟨hHeld3.out.1.step ((Step.refl [] w4).drewN n6) (by simp), hHeld3.out.2.1.step ((Step.refl [] w4).drewN n6) (by simp), hHeld3.out.2.2.drewN n6⟩); clear hw6
 go_wp2_with fail
 refine hK.out _ _ (H6) (fun hHeld4 => ?_)
 clear hK K hHeld3
 try simp only [Act.put, LsA, LsB, LsC, LsD, LsE, LsF]
 refine wpAnyH_take (i := 10) (v := ?_) rfl (by kernel_rfl) (by kernel_rfl) (by kernel_rfl) (fun _ _ _ h => h) (Or.inl ⟨by rfl, ?_⟩) hHeld4 ?_
 rotate_left
 ·intro w hSw1
  try dsimp only at hSw1
  go_simp
  try (with_reducible rfl)
 try simp only [Act.put, LsA, LsB, LsC, LsD, LsE, LsF]
 refine wpAnyH_done (by kernel_rfl) ?_ _
 have HE := hHeld4
 clear hHeld4
 have HFR : Hid (frB (s.drop k) = if be4 (crcL bd) ≠ [a', b', c', d'] then none else if rend (partsR bd).2 = 0 ∧ 0 < (partsR bd).1.k then some ((partsR bd).1, 8 + n) else none) := Lib.hid (by
  unfold frB
  rw [if_neg (by rw [List.length_drop]; omega), HNV.out, if_neg (by rw [List.length_drop]; omega), H44.out, ← HBD.out])
 by_cases hcr : crcL bd = fourW a' b' c' d'
 case neg =>
  have hq : (((crcL bd).toNat : Int) != ((fourW a' b' c' d').toNat : Int)) = true := by
   simp only [bne_iff_ne, ne_eq]
   intro e
   exact hcr (BitVec.eq_of_toNat_eq (by omega))
  have HF : Hid (frB (s.drop k) = none) := Lib.hid (by rw [HFR.out, if_pos (fun e => hcr (be4_fourW.1 e))])
  clear hcr
  have fc := HE.out.2.1.cell
  have f0 := fc 0
  have f1 := fc 1
  have f2 := fc 2
  have f3 := fc 3
  have f4 := fc 4
  clear fc
  simp only [rcc, List.getElem?_toArray, List.getElem?_cons_zero, List.getElem?_cons_succ] at f0 f1 f2 f3 f4
  go_wp2_with (refine wpList_storeRow (T := 45) (b := rb) (T' := 45) (cs := (rcc rc0).toArray) (vs := (rcc rc0).toArray) rfl (.tmp 4) (.tmp 57) rfl rfl rfl Tryz.sRec HE.out.1 rfl (rcc_one rc0) ?_; intro U ub uk)
  refine bodyPost_ret (res_row3 rfl _ rfl Tryz.sRec ub) rfl ?_
  exact ⟨by rw [HF.out]; exact ⟨rc0, _, rfl⟩, (HE.out.2.2.trans (uk.wide (T := [xb, rb]) (S'' := [xb, rb]) (by simp) (by intro j hj; exact .inl hj))).drop (by simp)⟩
 have hq : (((crcL bd).toNat : Int) != ((fourW a' b' c' d').toNat : Int)) = false := by rw [hcr]; simp
 have HF0 : Hid (frB (s.drop k) = if rend (partsR bd).2 = 0 ∧ 0 < (partsR bd).1.k then some ((partsR bd).1, 8 + n) else none) := Lib.hid (by rw [HFR.out, if_neg (fun e => e (be4_fourW.2 hcr))])
 clear hcr HFR
 go_wp2_with fail
 refine (read_any bd w6).mono ?_
 rintro e w7 ⟨rfl, hw7⟩
 obtain ⟨rp, hrp⟩ : ∃ rp, rp = w6.heap.size := ⟨_, rfl⟩
 rw [← hrp]
 obtain ⟨r0, hr0⟩ : ∃ r0 : RS, r0 = ⟨bd, false⟩ := ⟨_, rfl⟩
 have H7 : Hid (Blk w7 rb 45 (rcc rc0).toArray ∧ Blk w7 xb 45 (rcc rc0).toArray ∧ Rdr w7 rp r0 ∧ Hid (rb ≠ rp ∧ xb ≠ rp) ∧ Step [] [rp, xb, rb] w w7) := by
  have h1 := HE.out.1.lt
  have h2 := HE.out.2.1.lt
  subst hw7 hrp hr0
  exact ⟨HE.out.1.alloc _, HE.out.2.1.alloc _, Blk.new w6 _ _, Lib.hid ⟨by omega, by omega⟩, HE.out.2.2.hold _⟩
 have hL0 : r0.s.length ≤ 8388608 := by subst hr0; exact hbl
 have HRO := Lib.hid hr0
 clear hw7 hrp hr0 HE hq
 go_wp2_with fail
 refine (rnum_any rp r0 w7 H7.out.2.2.1 (by omega)).mono ?_
 rintro e w8 ⟨rfl, h31, h32⟩
 have hL1 := Nat.le_trans (rnum_len r0) hL0
 have H8 : Hid (Blk w8 rb 45 (rcc rc0).toArray ∧ Blk w8 xb 45 (rcc rc0).toArray ∧ Rdr w8 rp (rnum r0).2 ∧ Hid (rb ≠ rp ∧ xb ≠ rp) ∧ Step [] [rp, xb, rb] w w8) := Lib.hid ⟨H7.out.1.step h32 (by simpa using H7.out.2.2.2.1.out.1), H7.out.2.1.step h32 (by simpa using H7.out.2.2.2.1.out.2), h31, H7.out.2.2.2.1, H7.out.2.2.2.2.trans (h32.frameR [xb, rb])⟩
 clear h31 h32 H7
 go_wp2_with fail
 refine (rnum_any rp (rnum r0).2 w8 H8.out.2.2.1 (by omega)).mono ?_
 rintro e w9 ⟨rfl, h31, h32⟩
 have hL2 := Nat.le_trans (rnum_len (rnum r0).2) hL1
 have H9 : Hid (Blk w9 rb 45 (rcc rc0).toArray ∧ Blk w9 xb 45 (rcc rc0).toArray ∧ Rdr w9 rp (rnum (rnum r0).2).2 ∧ Hid (rb ≠ rp ∧ xb ≠ rp) ∧ Step [] [rp, xb, rb] w w9) := Lib.hid ⟨H8.out.1.step h32 (by simpa using H8.out.2.2.2.1.out.1), H8.out.2.1.step h32 (by simpa using H8.out.2.2.2.1.out.2), h31, H8.out.2.2.2.1, H8.out.2.2.2.2.trans (h32.frameR [xb, rb])⟩
 clear h31 h32 H8
 go_wp2_with fail
 refine (rnum_any rp (rnum (rnum r0).2).2 w9 H9.out.2.2.1 (by omega)).mono ?_
 rintro e w10 ⟨rfl, h31, h32⟩
 have hL3 := Nat.le_trans (rnum_len (rnum (rnum r0).2).2) hL2
 have H10 : Hid (Blk w10 rb 45 (rcc rc0).toArray ∧ Blk w10 xb 45 (rcc rc0).toArray ∧ Rdr w10 rp (rnum (rnum (rnum r0).2).2).2 ∧ Hid (rb ≠ rp ∧ xb ≠ rp) ∧ Step [] [rp, xb, rb] w w10) := Lib.hid ⟨H9.out.1.step h32 (by simpa using H9.out.2.2.2.1.out.1), H9.out.2.1.step h32 (by simpa using H9.out.2.2.2.1.out.2), h31, H9.out.2.2.2.1, H9.out.2.2.2.2.trans (h32.frameR [xb, rb])⟩
 clear h31 h32 H9
 go_wp2_with fail
 refine (rnum_any rp (rnum (rnum (rnum r0).2).2).2 w10 H10.out.2.2.1 (by omega)).mono ?_
 rintro e w11 ⟨rfl, h31, h32⟩
 have hL4 := Nat.le_trans (rnum_len (rnum (rnum (rnum r0).2).2).2) hL3
 have H11 : Hid (Blk w11 rb 45 (rcc rc0).toArray ∧ Blk w11 xb 45 (rcc rc0).toArray ∧ Rdr w11 rp (rnum (rnum (rnum (rnum r0).2).2).2).2 ∧ Hid (rb ≠ rp ∧ xb ≠ rp) ∧ Step [] [rp, xb, rb] w w11) := Lib.hid ⟨H10.out.1.step h32 (by simpa using H10.out.2.2.2.1.out.1), H10.out.2.1.step h32 (by simpa using H10.out.2.2.2.1.out.2), h31, H10.out.2.2.2.1, H10.out.2.2.2.2.trans (h32.frameR [xb, rb])⟩
 clear h31 h32 H10
 go_wp2_with fail
 refine (rtext_any rp (rnum (rnum (rnum (rnum r0).2).2).2).2 131072 w11 H11.out.2.2.1 (by omega)).mono ?_
 rintro e w12 ⟨rfl, h31, h32⟩
 have H12 : Hid (Blk w12 rb 45 (rcc rc0).toArray ∧ Blk w12 xb 45 (rcc rc0).toArray ∧ Rdr w12 rp (rtext (rnum (rnum (rnum (rnum r0).2).2).2).2 131072).2 ∧ Hid (rb ≠ rp ∧ xb ≠ rp) ∧ Step [] [rp, xb, rb] w w12) := Lib.hid ⟨H11.out.1.step h32 (by simpa using H11.out.2.2.2.1.out.1), H11.out.2.1.step h32 (by simpa using H11.out.2.2.2.1.out.2), h31, H11.out.2.2.2.1, H11.out.2.2.2.2.trans (h32.frameR [xb, rb])⟩
 clear h31 h32 H11
 obtain ⟨x, hx1⟩ : ∃ x : Rc, x = ⟨(rnum r0).1, (rnum (rnum r0).2).1, (rnum (rnum (rnum r0).2).2).1, (rnum (rnum (rnum (rnum r0).2).2).2).1, (rtext (rnum (rnum (rnum (rnum r0).2).2).2).2 131072).1⟩ := ⟨_, rfl⟩
 obtain ⟨r5, hr5⟩ : ∃ r5, r5 = (rtext (rnum (rnum (rnum (rnum r0).2).2).2).2 131072).2 := ⟨_, rfl⟩
 have hk1 := congrArg Rc.k hx1
 have hi1 := congrArg Rc.i hx1
 have ht1 := congrArg Rc.t hx1
 have hv1 := congrArg Rc.v hx1
 have hdt := congrArg Rc.dt hx1
 simp only at hk1 hi1 ht1 hv1 hdt
 rw [← hr5] at H12
 rw [← hk1, ← hi1, ← ht1, ← hv1, ← hdt]
 have HP : Hid (partsR bd = (x, r5)) := Lib.hid (by rw [hx1, hr5, HRO.out]; rfl)
 clear hk1 hi1 ht1 hv1 hdt hx1 hr5 hL0 hL1 hL2 hL3 hL4 HRO
 go_upto_region 12 with (refine wpList_storeRow (T := 45) (b := xb) (T' := 45) (cs := (rcc rc0).toArray) (vs := (rcc x).toArray) rfl (.tmp 7) (.tmp 71) rfl rfl rfl Tryz.sRec H12.out.2.1 rfl (rcc_one x) ?_; intro V0 ub uk; have H13 := Lib.hid (And.intro ub uk); clear ub uk)
 obtain ⟨V, hV⟩ : ∃ V, V = V0.drew := ⟨_, rfl⟩
 have HS : Hid (Blk V xb 45 (rcc x).toArray ∧ Rdr V rp r5) := by
  subst hV
  exact ⟨H13.out.1, H12.out.2.2.1.step H13.out.2.drew (by simpa using H12.out.2.2.2.1.out.2.symm)⟩
 have HB : Hid (Blk V rb 45 (rcc rc0).toArray ∧ xb ≠ rb ∧ rp ≠ rb ∧ Step [] [rp, xb, rb] w V) := by
  subst hV
  exact ⟨H12.out.1.step H13.out.2.drew (by simpa using HNE.out), HNE.out.symm, H12.out.2.2.2.1.out.1.symm, (H12.out.2.2.2.2.trans (H13.out.2.wide (T := [rp, xb, rb]) (S'' := [rp, xb, rb]) (by simp) (by intro j hj; exact .inl hj))).drew⟩
 have HF1 : Hid (frB (s.drop k) = if rend r5 = 0 ∧ 0 < x.k then some (x, 8 + n) else none) := Lib.hid (by rw [HF0.out, HP.out])
 have HKN : Hid ((k : Int) + 8 + (n : Int) = ((k + (8 + n) : Nat) : Int)) := Lib.hid (by omega)
 clear H12 H13 HF0 HP
 by_cases h0 : rend r5 = 0
 ·have q0 : (rend r5 == 0) = true := by simpa using h0
  by_cases h1 : 0 < x.k
  ·have q1 : decide (0 < x.k) = true := decide_eq_true h1
   have HF : Hid (frB (s.drop k) = some (x, 8 + n)) := Lib.hid (by rw [HF1.out, if_pos ⟨h0, h1⟩])
   clear h0 h1 HF1
   refine wp_region_held_drew (S := fun W => Hid (Blk W xb 45 (rcc x).toArray ∧ Rdr W rp r5)) (by kernel_rfl) (by rw [← hV]; exact HS) (fun hHeld => ?_)
   rw [← hV] at hHeld ⊢
   clear hV
   refine wpAnyH_take (i := 0) (v := ?_) rfl (by kernel_rfl) (by kernel_rfl) (by kernel_rfl) (fun _ _ _ h => h) (Or.inl ⟨by rfl, ?_⟩) hHeld ?_
   rotate_left
   ·intro w hSw1
    have fc := hSw1.out.1.cell
    have f0 := fc 0
    have f1 := fc 1
    have f2 := fc 2
    have f3 := fc 3
    have f4 := fc 4
    clear fc
    simp only [rcc, List.getElem?_toArray, List.getElem?_cons_zero, List.getElem?_cons_succ] at f0 f1 f2 f3 f4
    go_simp
    try (with_reducible rfl)
   try simp only [Act.put, LsA, LsB, LsC, LsD, LsE, LsF]
   refine wpAnyH_take (i := 1) (v := ?_) rfl (by kernel_rfl) (by kernel_rfl) (by kernel_rfl) (fun _ _ _ h => h) (Or.inl ⟨by rfl, ?_⟩) hHeld ?_
   rotate_left
   ·intro w hSw1
    try dsimp only at hSw1
    go_simp
    try (with_reducible rfl)
   try simp only [Act.put, LsA, LsB, LsC, LsD, LsE, LsF]
   refine wpAnyH_take (i := 2) (v := ?_) rfl (by kernel_rfl) (by kernel_rfl) (by kernel_rfl) (fun _ _ _ h => h) (Or.inl ⟨by rfl, ?_⟩) hHeld ?_
   rotate_left
   ·intro w hSw1
    have q : IntKind.i64.wrap ((k : Int) + 8) = (k : Int) + 8 := IntWalk.i64_in _ (by omega)
    go_simp
    try (with_reducible rfl)
   try simp only [Act.put, LsA, LsB, LsC, LsD, LsE, LsF]
   refine wpAnyH_take (i := 3) (v := ?_) rfl (by kernel_rfl) (by kernel_rfl) (by kernel_rfl) (fun _ _ _ h => h) (Or.inl ⟨by rfl, ?_⟩) hHeld ?_
   rotate_left
   ·intro w hSw1
    try dsimp only at hSw1
    go_simp
    try (with_reducible rfl)
   try simp only [Act.put, LsA, LsB, LsC, LsD, LsE, LsF]
   refine wpAnyH_take (i := 4) (v := ?_) rfl (by kernel_rfl) (by kernel_rfl) (by kernel_rfl) (fun _ _ _ h => h) (Or.inl ⟨by rfl, ?_⟩) hHeld ?_
   rotate_left
   ·intro w hSw1
    have q : IntKind.i64.wrap ((k : Int) + 8 + (n : Int)) = (k : Int) + 8 + (n : Int) := IntWalk.i64_in _ (by omega)
    go_simp
    try (with_reducible rfl)
   try simp only [Act.put, LsA, LsB, LsC, LsD, LsE, LsF]
   refine wpAnyH_take (i := 5) (v := ?_) rfl (by kernel_rfl) (by kernel_rfl) (by kernel_rfl) (fun _ _ _ h => h) (Or.inl ⟨by rfl, ?_⟩) hHeld ?_
   rotate_left
   ·intro w hSw1
    try dsimp only at hSw1
    go_simp
    try (with_reducible rfl)
   try simp only [Act.put, LsA, LsB, LsC, LsD, LsE, LsF]
   refine wpAnyH_ready (rs := [6]) (by kernel_rfl) (by simp) ?_
   refine AllReadyH.cons rfl (fun K hK => ?_) AllReadyH.nil
   go_simp
   refine (end_any rp r5 V hHeld.out.2).mono ?_; rintro e w7 ⟨rfl, rfl⟩
   go_wp2_with fail
   refine hK.out _ _ (hHeld) (fun hHeld2 => ?_)
   clear hK K hHeld
   try simp only [Act.put, LsA, LsB, LsC, LsD, LsE, LsF]
   refine wpAnyH_take (i := 7) (v := ?_) rfl (by kernel_rfl) (by kernel_rfl) (by kernel_rfl) (fun _ _ _ h => h) (Or.inl ⟨by rfl, ?_⟩) hHeld2 ?_
   rotate_left
   ·intro w hSw1
    try dsimp only at hSw1
    go_simp
    try (with_reducible rfl)
   try simp only [Act.put, LsA, LsB, LsC, LsD, LsE, LsF]
   refine wpAnyH_take (i := 8) (v := ?_) rfl (by kernel_rfl) (by kernel_rfl) (by kernel_rfl) (fun _ _ _ h => h) (Or.inl ⟨by rfl, ?_⟩) hHeld2 ?_
   rotate_left
   ·intro w hSw1
    try dsimp only at hSw1
    go_simp
    try (with_reducible rfl)
   try simp only [Act.put, LsA, LsB, LsC, LsD, LsE, LsF]
   refine wpAnyH_take (i := 9) (v := ?_) rfl (by kernel_rfl) (by kernel_rfl) (by kernel_rfl) (fun _ _ _ h => h) (Or.inl ⟨by rfl, ?_⟩) hHeld2 ?_
   rotate_left
   ·intro w hSw1
    try dsimp only at hSw1
    go_simp
    try (with_reducible rfl)
   try simp only [Act.put, LsA, LsB, LsC, LsD, LsE, LsF]
   refine wpAnyH_take (i := 10) (v := ?_) rfl (by kernel_rfl) (by kernel_rfl) (by kernel_rfl) (fun _ _ _ h => h) (Or.inl ⟨by rfl, ?_⟩) hHeld2 ?_
   rotate_left
   ·intro w hSw1
    have fc := hSw1.out.1.cell
    have f0 := fc 0
    have f1 := fc 1
    have f2 := fc 2
    have f3 := fc 3
    have f4 := fc 4
    clear fc
    simp only [rcc, List.getElem?_toArray, List.getElem?_cons_zero, List.getElem?_cons_succ] at f0 f1 f2 f3 f4
    go_simp
    try (with_reducible rfl)
   try simp only [Act.put, LsA, LsB, LsC, LsD, LsE, LsF]
   refine wpAnyH_take (i := 11) (v := ?_) rfl (by kernel_rfl) (by kernel_rfl) (by kernel_rfl) (fun _ _ _ h => h) (Or.inl ⟨by rfl, ?_⟩) hHeld2 ?_
   rotate_left
   ·intro w hSw1
    try dsimp only at hSw1
    go_simp
    try (with_reducible rfl)
   try simp only [Act.put, LsA, LsB, LsC, LsD, LsE, LsF]
   refine wpAnyH_take (i := 12) (v := ?_) rfl (by kernel_rfl) (by kernel_rfl) (by kernel_rfl) (fun _ _ _ h => h) (Or.inl ⟨by rfl, ?_⟩) hHeld2 ?_
   rotate_left
   ·intro w hSw1
    try dsimp only at hSw1
    go_simp
    try (with_reducible rfl)
   try simp only [Act.put, LsA, LsB, LsC, LsD, LsE, LsF]
   refine wpAnyH_ready (rs := [13]) (by kernel_rfl) (by simp) ?_
   refine AllReadyH.cons rfl (fun K hK => ?_) AllReadyH.nil
   refine step_storeOff (v := rcV x) (b := rb) (i := 0) (T := 45) (T' := 45) (cs := (rcc rc0).toArray) (cs' := (rcc x).toArray) rfl (.tmp 4) (.tmp 72) rfl rfl rfl (by kernel_rfl) HB.out.1 (by simp [Value.cells, rcc]) (by simp [Value.cells, Value.oneCell']) rfl ?_; intro U ub uk; have HU := Lib.hid (And.intro (hHeld2.out.1.step uk (by simpa using HB.out.2.1)) (hHeld2.out.2.step uk (by simpa using HB.out.2.2.1))); have HUB := Lib.hid (And.intro ub uk); clear ub uk
   refine hK.out _ _ (HU) (fun hHeld3 => ?_)
   clear hK K hHeld2
   try simp only [Act.put, LsA, LsB, LsC, LsD, LsE, LsF]
   refine wpAnyH_take (i := 14) (v := ?_) rfl (by kernel_rfl) (by kernel_rfl) (by kernel_rfl) (fun _ _ _ h => h) (Or.inl ⟨by rfl, ?_⟩) hHeld3 ?_
   rotate_left
   ·intro w hSw1
    try dsimp only at hSw1
    go_simp
    try (with_reducible rfl)
   try simp only [Act.put, LsA, LsB, LsC, LsD, LsE, LsF]
   refine wpAnyH_take (i := 15) (v := ?_) rfl (by kernel_rfl) (by kernel_rfl) (by kernel_rfl) (fun _ _ _ h => h) (Or.inl ⟨by rfl, ?_⟩) hHeld3 ?_
   rotate_left
   ·intro w hSw1
    try dsimp only at hSw1
    go_simp
    try (with_reducible rfl)
   try simp only [Act.put, LsA, LsB, LsC, LsD, LsE, LsF]
   refine wpAnyH_done (by kernel_rfl) ?_ _
   go_wp2_with fail
   refine bodyPost_ret (res_row3 rfl _ rfl Tryz.sRec HUB.out.1) rfl ?_
   refine ⟨?_, (HB.out.2.2.2.trans (HUB.out.2.wide (T := [rp, xb, rb]) (S'' := [rp, xb, rb]) (by simp) (by intro j hj; exact .inl hj))).drop (by simp)⟩
   rw [HF.out]
   exact congrArg (fun v => Ending.returned (.tuple #[rcV x, .int .i64 v, .bool true])) HKN.out
  ·have q1 : decide (0 < x.k) = false := decide_eq_false h1
   have HF : Hid (frB (s.drop k) = none) := Lib.hid (by rw [HF1.out, if_neg (fun h => h1 h.2)])
   clear h0 h1 HF1
   refine wp_region_held_drew (S := fun W => Hid (Blk W xb 45 (rcc x).toArray ∧ Rdr W rp r5)) (by kernel_rfl) (by rw [← hV]; exact HS) (fun hHeld => ?_)
   rw [← hV] at hHeld ⊢
   clear hV
   refine wpAnyH_take (i := 0) (v := ?_) rfl (by kernel_rfl) (by kernel_rfl) (by kernel_rfl) (fun _ _ _ h => h) (Or.inl ⟨by rfl, ?_⟩) hHeld ?_
   rotate_left
   ·intro w hSw1
    have fc := hSw1.out.1.cell
    have f0 := fc 0
    have f1 := fc 1
    have f2 := fc 2
    have f3 := fc 3
    have f4 := fc 4
    clear fc
    simp only [rcc, List.getElem?_toArray, List.getElem?_cons_zero, List.getElem?_cons_succ] at f0 f1 f2 f3 f4
    go_simp
    try (with_reducible rfl)
   try simp only [Act.put, LsA, LsB, LsC, LsD, LsE, LsF]
   refine wpAnyH_take (i := 1) (v := ?_) rfl (by kernel_rfl) (by kernel_rfl) (by kernel_rfl) (fun _ _ _ h => h) (Or.inl ⟨by rfl, ?_⟩) hHeld ?_
   rotate_left
   ·intro w hSw1
    try dsimp only at hSw1
    go_simp
    try (with_reducible rfl)
   try simp only [Act.put, LsA, LsB, LsC, LsD, LsE, LsF]
   refine wpAnyH_take (i := 2) (v := ?_) rfl (by kernel_rfl) (by kernel_rfl) (by kernel_rfl) (fun _ _ _ h => h) (Or.inl ⟨by rfl, ?_⟩) hHeld ?_
   rotate_left
   ·intro w hSw1
    have q : IntKind.i64.wrap ((k : Int) + 8) = (k : Int) + 8 := IntWalk.i64_in _ (by omega)
    go_simp
    try (with_reducible rfl)
   try simp only [Act.put, LsA, LsB, LsC, LsD, LsE, LsF]
   refine wpAnyH_take (i := 3) (v := ?_) rfl (by kernel_rfl) (by kernel_rfl) (by kernel_rfl) (fun _ _ _ h => h) (Or.inl ⟨by rfl, ?_⟩) hHeld ?_
   rotate_left
   ·intro w hSw1
    try dsimp only at hSw1
    go_simp
    try (with_reducible rfl)
   try simp only [Act.put, LsA, LsB, LsC, LsD, LsE, LsF]
   refine wpAnyH_take (i := 4) (v := ?_) rfl (by kernel_rfl) (by kernel_rfl) (by kernel_rfl) (fun _ _ _ h => h) (Or.inl ⟨by rfl, ?_⟩) hHeld ?_
   rotate_left
   ·intro w hSw1
    have q : IntKind.i64.wrap ((k : Int) + 8 + (n : Int)) = (k : Int) + 8 + (n : Int) := IntWalk.i64_in _ (by omega)
    go_simp
    try (with_reducible rfl)
   try simp only [Act.put, LsA, LsB, LsC, LsD, LsE, LsF]
   refine wpAnyH_take (i := 5) (v := ?_) rfl (by kernel_rfl) (by kernel_rfl) (by kernel_rfl) (fun _ _ _ h => h) (Or.inl ⟨by rfl, ?_⟩) hHeld ?_
   rotate_left
   ·intro w hSw1
    try dsimp only at hSw1
    go_simp
    try (with_reducible rfl)
   try simp only [Act.put, LsA, LsB, LsC, LsD, LsE, LsF]
   refine wpAnyH_ready (rs := [6]) (by kernel_rfl) (by simp) ?_
   refine AllReadyH.cons rfl (fun K hK => ?_) AllReadyH.nil
   go_simp
   refine (end_any rp r5 V hHeld.out.2).mono ?_; rintro e w7 ⟨rfl, rfl⟩
   go_wp2_with fail
   refine hK.out _ _ (hHeld) (fun hHeld2 => ?_)
   clear hK K hHeld
   try simp only [Act.put, LsA, LsB, LsC, LsD, LsE, LsF]
   refine wpAnyH_take (i := 7) (v := ?_) rfl (by kernel_rfl) (by kernel_rfl) (by kernel_rfl) (fun _ _ _ h => h) (Or.inl ⟨by rfl, ?_⟩) hHeld2 ?_
   rotate_left
   ·intro w hSw1
    try dsimp only at hSw1
    go_simp
    try (with_reducible rfl)
   try simp only [Act.put, LsA, LsB, LsC, LsD, LsE, LsF]
   refine wpAnyH_take (i := 8) (v := ?_) rfl (by kernel_rfl) (by kernel_rfl) (by kernel_rfl) (fun _ _ _ h => h) (Or.inl ⟨by rfl, ?_⟩) hHeld2 ?_
   rotate_left
   ·intro w hSw1
    try dsimp only at hSw1
    go_simp
    try (with_reducible rfl)
   try simp only [Act.put, LsA, LsB, LsC, LsD, LsE, LsF]
   refine wpAnyH_take (i := 9) (v := ?_) rfl (by kernel_rfl) (by kernel_rfl) (by kernel_rfl) (fun _ _ _ h => h) (Or.inl ⟨by rfl, ?_⟩) hHeld2 ?_
   rotate_left
   ·intro w hSw1
    try dsimp only at hSw1
    go_simp
    try (with_reducible rfl)
   try simp only [Act.put, LsA, LsB, LsC, LsD, LsE, LsF]
   refine wpAnyH_take (i := 10) (v := ?_) rfl (by kernel_rfl) (by kernel_rfl) (by kernel_rfl) (fun _ _ _ h => h) (Or.inl ⟨by rfl, ?_⟩) hHeld2 ?_
   rotate_left
   ·intro w hSw1
    have fc := hSw1.out.1.cell
    have f0 := fc 0
    have f1 := fc 1
    have f2 := fc 2
    have f3 := fc 3
    have f4 := fc 4
    clear fc
    simp only [rcc, List.getElem?_toArray, List.getElem?_cons_zero, List.getElem?_cons_succ] at f0 f1 f2 f3 f4
    go_simp
    try (with_reducible rfl)
   try simp only [Act.put, LsA, LsB, LsC, LsD, LsE, LsF]
   refine wpAnyH_take (i := 11) (v := ?_) rfl (by kernel_rfl) (by kernel_rfl) (by kernel_rfl) (fun _ _ _ h => h) (Or.inl ⟨by rfl, ?_⟩) hHeld2 ?_
   rotate_left
   ·intro w hSw1
    try dsimp only at hSw1
    go_simp
    try (with_reducible rfl)
   try simp only [Act.put, LsA, LsB, LsC, LsD, LsE, LsF]
   refine wpAnyH_take (i := 12) (v := ?_) rfl (by kernel_rfl) (by kernel_rfl) (by kernel_rfl) (fun _ _ _ h => h) (Or.inl ⟨by rfl, ?_⟩) hHeld2 ?_
   rotate_left
   ·intro w hSw1
    try dsimp only at hSw1
    go_simp
    try (with_reducible rfl)
   try simp only [Act.put, LsA, LsB, LsC, LsD, LsE, LsF]
   refine wpAnyH_ready (rs := [13]) (by kernel_rfl) (by simp) ?_
   refine AllReadyH.cons rfl (fun K hK => ?_) AllReadyH.nil
   refine step_storeOff (v := rcV x) (b := rb) (i := 0) (T := 45) (T' := 45) (cs := (rcc rc0).toArray) (cs' := (rcc x).toArray) rfl (.tmp 4) (.tmp 72) rfl rfl rfl (by kernel_rfl) HB.out.1 (by simp [Value.cells, rcc]) (by simp [Value.cells, Value.oneCell']) rfl ?_; intro U ub uk; have HU := Lib.hid (And.intro (hHeld2.out.1.step uk (by simpa using HB.out.2.1)) (hHeld2.out.2.step uk (by simpa using HB.out.2.2.1))); have HUB := Lib.hid (And.intro ub uk); clear ub uk
   refine hK.out _ _ (HU) (fun hHeld3 => ?_)
   clear hK K hHeld2
   try simp only [Act.put, LsA, LsB, LsC, LsD, LsE, LsF]
   refine wpAnyH_take (i := 14) (v := ?_) rfl (by kernel_rfl) (by kernel_rfl) (by kernel_rfl) (fun _ _ _ h => h) (Or.inl ⟨by rfl, ?_⟩) hHeld3 ?_
   rotate_left
   ·intro w hSw1
    try dsimp only at hSw1
    go_simp
    try (with_reducible rfl)
   try simp only [Act.put, LsA, LsB, LsC, LsD, LsE, LsF]
   refine wpAnyH_take (i := 15) (v := ?_) rfl (by kernel_rfl) (by kernel_rfl) (by kernel_rfl) (fun _ _ _ h => h) (Or.inl ⟨by rfl, ?_⟩) hHeld3 ?_
   rotate_left
   ·intro w hSw1
    try dsimp only at hSw1
    go_simp
    try (with_reducible rfl)
   try simp only [Act.put, LsA, LsB, LsC, LsD, LsE, LsF]
   refine wpAnyH_done (by kernel_rfl) ?_ _
   go_wp2_with fail
   refine bodyPost_ret (res_row3 rfl _ rfl Tryz.sRec HUB.out.1) rfl ?_
   refine ⟨?_, (HB.out.2.2.2.trans (HUB.out.2.wide (T := [rp, xb, rb]) (S'' := [rp, xb, rb]) (by simp) (by intro j hj; exact .inl hj))).drop (by simp)⟩
   rw [HF.out]
   exact ⟨x, _, rfl⟩
 ·have q0 : (rend r5 == 0) = false := by simpa using h0
  have HF : Hid (frB (s.drop k) = none) := Lib.hid (by rw [HF1.out, if_neg (fun h => h0 h.1)])
  clear h0 HF1
  refine wp_region_held_drew (S := fun W => Hid (Blk W xb 45 (rcc x).toArray ∧ Rdr W rp r5)) (by kernel_rfl) (by rw [← hV]; exact HS) (fun hHeld => ?_)
  rw [← hV] at hHeld ⊢
  clear hV
  refine wpAnyH_take (i := 0) (v := ?_) rfl (by kernel_rfl) (by kernel_rfl) (by kernel_rfl) (fun _ _ _ h => h) (Or.inl ⟨by rfl, ?_⟩) hHeld ?_
  rotate_left
  ·intro w hSw1
   have fc := hSw1.out.1.cell
   have f0 := fc 0
   have f1 := fc 1
   have f2 := fc 2
   have f3 := fc 3
   have f4 := fc 4
   clear fc
   simp only [rcc, List.getElem?_toArray, List.getElem?_cons_zero, List.getElem?_cons_succ] at f0 f1 f2 f3 f4
   go_simp
   try (with_reducible rfl)
  try simp only [Act.put, LsA, LsB, LsC, LsD, LsE, LsF]
  refine wpAnyH_take (i := 1) (v := ?_) rfl (by kernel_rfl) (by kernel_rfl) (by kernel_rfl) (fun _ _ _ h => h) (Or.inl ⟨by rfl, ?_⟩) hHeld ?_
  rotate_left
  ·intro w hSw1
   try dsimp only at hSw1
   go_simp
   try (with_reducible rfl)
  try simp only [Act.put, LsA, LsB, LsC, LsD, LsE, LsF]
  refine wpAnyH_take (i := 2) (v := ?_) rfl (by kernel_rfl) (by kernel_rfl) (by kernel_rfl) (fun _ _ _ h => h) (Or.inl ⟨by rfl, ?_⟩) hHeld ?_
  rotate_left
  ·intro w hSw1
   have q : IntKind.i64.wrap ((k : Int) + 8) = (k : Int) + 8 := IntWalk.i64_in _ (by omega)
   go_simp
   try (with_reducible rfl)
  try simp only [Act.put, LsA, LsB, LsC, LsD, LsE, LsF]
  refine wpAnyH_take (i := 3) (v := ?_) rfl (by kernel_rfl) (by kernel_rfl) (by kernel_rfl) (fun _ _ _ h => h) (Or.inl ⟨by rfl, ?_⟩) hHeld ?_
  rotate_left
  ·intro w hSw1
   try dsimp only at hSw1
   go_simp
   try (with_reducible rfl)
  try simp only [Act.put, LsA, LsB, LsC, LsD, LsE, LsF]
  refine wpAnyH_take (i := 4) (v := ?_) rfl (by kernel_rfl) (by kernel_rfl) (by kernel_rfl) (fun _ _ _ h => h) (Or.inl ⟨by rfl, ?_⟩) hHeld ?_
  rotate_left
  ·intro w hSw1
   have q : IntKind.i64.wrap ((k : Int) + 8 + (n : Int)) = (k : Int) + 8 + (n : Int) := IntWalk.i64_in _ (by omega)
   go_simp
   try (with_reducible rfl)
  try simp only [Act.put, LsA, LsB, LsC, LsD, LsE, LsF]
  refine wpAnyH_take (i := 5) (v := ?_) rfl (by kernel_rfl) (by kernel_rfl) (by kernel_rfl) (fun _ _ _ h => h) (Or.inl ⟨by rfl, ?_⟩) hHeld ?_
  rotate_left
  ·intro w hSw1
   try dsimp only at hSw1
   go_simp
   try (with_reducible rfl)
  try simp only [Act.put, LsA, LsB, LsC, LsD, LsE, LsF]
  refine wpAnyH_ready (rs := [6]) (by kernel_rfl) (by simp) ?_
  refine AllReadyH.cons rfl (fun K hK => ?_) AllReadyH.nil
  go_simp
  refine (end_any rp r5 V hHeld.out.2).mono ?_; rintro e w7 ⟨rfl, rfl⟩
  go_wp2_with fail
  refine hK.out _ _ (hHeld) (fun hHeld2 => ?_)
  clear hK K hHeld
  try simp only [Act.put, LsA, LsB, LsC, LsD, LsE, LsF]
  refine wpAnyH_take (i := 7) (v := ?_) rfl (by kernel_rfl) (by kernel_rfl) (by kernel_rfl) (fun _ _ _ h => h) (Or.inl ⟨by rfl, ?_⟩) hHeld2 ?_
  rotate_left
  ·intro w hSw1
   try dsimp only at hSw1
   go_simp
   try (with_reducible rfl)
  try simp only [Act.put, LsA, LsB, LsC, LsD, LsE, LsF]
  refine wpAnyH_take (i := 8) (v := ?_) rfl (by kernel_rfl) (by kernel_rfl) (by kernel_rfl) (fun _ _ _ h => h) (Or.inl ⟨by rfl, ?_⟩) hHeld2 ?_
  rotate_left
  ·intro w hSw1
   try dsimp only at hSw1
   go_simp
   try (with_reducible rfl)
  try simp only [Act.put, LsA, LsB, LsC, LsD, LsE, LsF]
  refine wpAnyH_take (i := 9) (v := undef) rfl (by kernel_rfl) (by kernel_rfl) (by kernel_rfl) (fun _ _ _ h => h) (Or.inr ⟨by kernel_rfl, rfl⟩) hHeld2 ?_
  try simp only [Act.put, LsA, LsB, LsC, LsD, LsE, LsF]
  refine wpAnyH_take (i := 10) (v := undef) rfl (by kernel_rfl) (by kernel_rfl) (by kernel_rfl) (fun _ _ _ h => h) (Or.inr ⟨by kernel_rfl, rfl⟩) hHeld2 ?_
  try simp only [Act.put, LsA, LsB, LsC, LsD, LsE, LsF]
  refine wpAnyH_take (i := 11) (v := undef) rfl (by kernel_rfl) (by kernel_rfl) (by kernel_rfl) (fun _ _ _ h => h) (Or.inr ⟨by kernel_rfl, rfl⟩) hHeld2 ?_
  try simp only [Act.put, LsA, LsB, LsC, LsD, LsE, LsF]
  refine wpAnyH_take (i := 12) (v := ?_) rfl (by kernel_rfl) (by kernel_rfl) (by kernel_rfl) (fun _ _ _ h => h) (Or.inl ⟨by rfl, ?_⟩) hHeld2 ?_
  rotate_left
  ·intro w hSw1
   try dsimp only at hSw1
   go_simp
   try (with_reducible rfl)
  try simp only [Act.put, LsA, LsB, LsC, LsD, LsE, LsF]
  refine wpAnyH_ready (rs := [13]) (by kernel_rfl) (by simp) ?_
  refine AllReadyH.cons rfl (fun K hK => ?_) AllReadyH.nil
  refine step_storeOff (v := rcV x) (b := rb) (i := 0) (T := 45) (T' := 45) (cs := (rcc rc0).toArray) (cs' := (rcc x).toArray) rfl (.tmp 4) (.tmp 72) rfl rfl rfl (by kernel_rfl) HB.out.1 (by simp [Value.cells, rcc]) (by simp [Value.cells, Value.oneCell']) rfl ?_; intro U ub uk; have HU := Lib.hid (And.intro (hHeld2.out.1.step uk (by simpa using HB.out.2.1)) (hHeld2.out.2.step uk (by simpa using HB.out.2.2.1))); have HUB := Lib.hid (And.intro ub uk); clear ub uk
  refine hK.out _ _ (HU) (fun hHeld3 => ?_)
  clear hK K hHeld2
  try simp only [Act.put, LsA, LsB, LsC, LsD, LsE, LsF]
  refine wpAnyH_take (i := 14) (v := ?_) rfl (by kernel_rfl) (by kernel_rfl) (by kernel_rfl) (fun _ _ _ h => h) (Or.inl ⟨by rfl, ?_⟩) hHeld3 ?_
  rotate_left
  ·intro w hSw1
   try dsimp only at hSw1
   go_simp
   try (with_reducible rfl)
  try simp only [Act.put, LsA, LsB, LsC, LsD, LsE, LsF]
  refine wpAnyH_take (i := 15) (v := ?_) rfl (by kernel_rfl) (by kernel_rfl) (by kernel_rfl) (fun _ _ _ h => h) (Or.inl ⟨by rfl, ?_⟩) hHeld3 ?_
  rotate_left
  ·intro w hSw1
   try dsimp only at hSw1
   go_simp
   try (with_reducible rfl)
  try simp only [Act.put, LsA, LsB, LsC, LsD, LsE, LsF]
  refine wpAnyH_done (by kernel_rfl) ?_ _
  go_wp2_with fail
  refine bodyPost_ret (res_row3 rfl _ rfl Tryz.sRec HUB.out.1) rfl ?_
  refine ⟨?_, (HB.out.2.2.2.trans (HUB.out.2.wide (T := [rp, xb, rb]) (S'' := [rp, xb, rb]) (by simp) (by intro j hj; exact .inl hj))).drop (by simp)⟩
  rw [HF.out]
  exact ⟨x, _, rfl⟩

end Go.Proofs.YtnkbphecabnnaaaGreatDoor
