/-
 wal.records, wal.begins. Condition: a text of at most 2^23 bytes.
-/
import Derived.Test.YtnkbphecabnnaaaGreatDoorZGA
import Derived.Test.YtnkbphecabnnaaaGreatDoorZGK
import Derived.Test.YtnkbphecabnnaaaGreatDoorZGO
import Derived.Test.YtnkbphecabnnaaaGreatDoorZGE
import Derived.Test.YtnkbphecabnnaaaGreatDoorZGS
import Derived.Test.YtnkbphecabnnaaaGreatDoorZGT
import Derived.Test.YtnkbphecabnnaaaGreatDoorZWlC
namespace Go.Proofs.YtnkbphecabnnaaaGreatDoor
open Go.RowKit Go.Lib
set_option linter.unusedSimpArgs false
set_option linter.unusedVariables false
set_option maxRecDepth 100000

theorem Tryz.info_rec : (Tryz.prog.info? 45).map (fun i => (i.zero, i.size, i.bytes)) = some (some (.agg #[.int .i64 0, .int .i64 0, .int .i64 0, .int .i64 0, .string ⟨#[]⟩]), 5, 48) := by kernel_rfl
theorem parts_dt (b : List UInt8) : (partsR b).1.dt.length ≤ b.length := by
 unfold partsR
 simp only
 have h0 := rnum_len ⟨b, false⟩
 have h1 := rnum_len (rnum ⟨b, false⟩).2
 have h2 := rnum_len (rnum (rnum ⟨b, false⟩).2).2
 have h3 := rnum_len (rnum (rnum (rnum ⟨b, false⟩).2).2).2
 have h4 := (srtext_len (rnum (rnum (rnum (rnum ⟨b, false⟩).2).2).2).2 131072).1
 simp only at h0
 omega
theorem frB_dt {u : List UInt8} {r : Rc} {n : Nat} (h : frB u = some (r, n)) : r.dt.length ≤ u.length := by
 unfold frB at h
 split at h
 ·cases h
 ·split at h
  ·cases h
  ·split at h
   ·cases h
   ·split at h
    ·injection h with h
     injection h with h1 h2
     rw [← h1]
     have := parts_dt ((u.drop 8).take (val (u.take 4)))
     simp only [List.length_take, List.length_drop] at this
     omega
    ·cases h
def rcs (l : List Rc) : List Value := l.flatMap rcc
theorem rcs_snoc (l : List Rc) (r : Rc) : rcs (l ++ [r]) = rcs l ++ rcc r := by simp [rcs]
theorem rcc_ones (r : Rc) : ∀ u ∈ rcc r, u.oneCell' = true := by
 intro u hu
 simp only [rcc, List.mem_cons, List.not_mem_nil, or_false] at hu
 rcases hu with rfl | rfl | rfl | rfl | rfl <;> rfl
theorem rcs_ones (l : List Rc) : ∀ u ∈ rcs l, u.oneCell' = true := by
 intro u hu
 obtain ⟨r, _, hr⟩ := List.mem_flatMap.1 hu
 exact rcc_ones r u hr
def RcsP (s : List UInt8) (k : Nat) (w : World) (e : Ending) (w' : World) : Prop := ∃ a cap, e = .returned (.tuple #[.slice a (recs (s.drop k)).1.length cap, .int .i64 ((k + (recs (s.drop k)).2 : Nat) : Int)]) ∧ Row w' 5 a (recs (s.drop k)).1.length cap (rcs (recs (s.drop k)).1) ∧ Step [] (blks a) w w'
structure WrR (s : List UInt8) (k0 : Nat) (w : World) (k : Nat) (l : List Rc) (a : Option Addr) (cap : Nat) (W : World) : Prop where
 ge : k0 ≤ k
 rec_ : recs (s.drop k0) = (l ++ (recs (s.drop k)).1, (k - k0) + (recs (s.drop k)).2)
 row : Row W 5 a l.length cap (rcs l)
 st : Step [] (blks a) w W
set_option maxHeartbeats 4000000 in
theorem wrecords_any (s : List UInt8) (k0 : Nat) (hk : k0 ≤ s.length) (hs : s.length ≤ 8388608) (w : World) : Calls Tryz.prog 32 #[Str s, .int .i64 (k0 : Int)] w (RcsP s k0 w) := by
 have HS := Lib.hid hs
 have hs2 : s.length ≤ 8388608 := hs
 clear hs
 obtain ⟨i0, hi, hz0, hz1, hz2⟩ := info_parts Tryz.info_rec
 have HI := Lib.hid (And.intro hi (And.intro hz0 (And.intro hz1 hz2)))
 clear hi hz0 hz1 hz2
 have HK := Lib.hid hk
 go_enter Tryz.func32, Tryz.ntmps32
 go_upto_region 1 with fail
 go_wp2_with fail
 go_loopw [1, 6] (fun v o W => ∃ (k : Nat) (l : List Rc) (a : Option Addr) (cap : Nat), v = .int .i64 k ∧ o = .slice a l.length cap ∧ k ≤ s.length ∧ l.length ≤ k ∧ Hid (WrR s k0 w k l a cap W)) (fun v _ _ => s.length - (intOf v).toNat)
 case atStart => exact ⟨k0, [], none, 0, rfl, rfl, HK.out, by simp, Lib.hid ⟨Nat.le_refl _, by simp, Row.none _ _, by simpa [blks] using Step.refl [] w⟩⟩
 case round =>
  rename World => W
  obtain ⟨k, l, a, cap, rfl, rfl, hkl, hll, HW⟩ := hrel
  by_cases hlt : k < s.length
  ·have hlt2 : (k : Int) < (s.length : Int) := by omega
   go_wp2_with fail
   refine (wread_any s k hkl HS.out W).mono ?_
   intro e w1 hp
   obtain ⟨he, st⟩ := hp
   have H1 : Hid (Row w1 5 a l.length cap (rcs l) ∧ Step [] (blks a) w w1) := Lib.hid ⟨HW.out.row.step st (by simp), HW.out.st.trans (st.keep _)⟩
   clear st
   cases hf : frB (s.drop k) with
   | none =>
    simp only [hf] at he
    obtain ⟨r, nx, rfl⟩ := he
    have HKK : Hid ((k : Int) = ((k0 + (k - k0) : Nat) : Int)) := Lib.hid (by have := HW.out.ge; omega)
    have HD : Hid (recs (s.drop k0) = (l, k - k0)) := Lib.hid (by rw [HW.out.rec_, recs_none hf]; simp)
    clear hf HW
    go_upto_region 4 with fail
    obtain ⟨xb, hxb⟩ : ∃ xb, xb = w1.heap.size := ⟨_, rfl⟩
    obtain ⟨V, hV⟩ : ∃ V, V = w1.alloc (.cells (rcc r).toArray 45) := ⟨_, rfl⟩
    have HE : Hid (Row V 5 a l.length cap (rcs l) ∧ Step [] (blks a) w V) := by
     subst hV
     exact ⟨H1.out.1.alloc _, H1.out.2.alloc _⟩
    change Code.wp _ _ _ _ (w1.alloc (.cells (rcc r).toArray 45))
    rw [← hV]
    try rw [← hxb]
    clear hV hxb H1
    go_wp2_with fail
    refine bodyPost_ret (results_tmp2 rfl _ _ _) rfl ?_
    exact ⟨a, cap, by rw [HD.out]; exact congrArg (fun v => Ending.returned (.tuple #[.slice a l.length cap, .int .i64 v])) HKK.out, by rw [HD.out]; exact HE.out.1, HE.out.2⟩
   | some q =>
    obtain ⟨r, n⟩ := q
    simp only [hf] at he
    subst he
    have hn := frB_len hf
    rw [List.length_drop] at hn
    have hdt : r.dt.length ≤ 8388608 := by have := frB_dt hf; rw [List.length_drop] at this; omega
    have HF := Lib.hid hf
    clear hf
    go_upto_region 4 with fail
    obtain ⟨xb, hxb⟩ : ∃ xb, xb = w1.heap.size := ⟨_, rfl⟩
    obtain ⟨V, hV⟩ : ∃ V, V = w1.alloc (.cells (rcc r).toArray 45) := ⟨_, rfl⟩
    have HE : Hid (Row V 5 a l.length cap (rcs l) ∧ Step [] (blks a) w V ∧ Blk V xb 45 (rcc r).toArray) := by
     subst hV hxb
     exact ⟨H1.out.1.alloc _, H1.out.2.alloc _, Blk.new w1 _ _⟩
    change Code.wp _ _ _ _ (w1.alloc (.cells (rcc r).toArray 45))
    rw [← hV]
    try rw [← hxb]
    clear hV hxb H1
    have fc := HE.out.2.2.cell
    have f0 := fc 0
    have f1 := fc 1
    have f2 := fc 2
    have f3 := fc 3
    have f4 := fc 4
    clear fc
    simp only [rcc, List.getElem?_toArray, List.getElem?_cons_zero, List.getElem?_cons_succ] at f0 f1 f2 f3 f4
    go_wp2_with fail
    refine (wright_any r V (by omega)).mono ?_
    rintro e w2 ⟨rfl, st⟩
    have H2 : Hid (Row w2 5 a l.length cap (rcs l) ∧ Step [] (blks a) w w2 ∧ Blk w2 xb 45 (rcc r).toArray) := Lib.hid ⟨HE.out.1.step st (by simp), HE.out.2.1.trans (st.keep _), HE.out.2.2.step st (by simp)⟩
    clear st HE f0 f1 f2 f3 f4
    cases hr : rightRc r with
    | false =>
     have HKK : Hid ((k : Int) = ((k0 + (k - k0) : Nat) : Int)) := Lib.hid (by have := HW.out.ge; omega)
     have HD : Hid (recs (s.drop k0) = (l, k - k0)) := Lib.hid (by rw [HW.out.rec_, recs_some HF.out, if_neg (by rw [hr]; simp)]; simp)
     have HE : Hid (Row w2 5 a l.length cap (rcs l) ∧ Step [] (blks a) w w2) := Lib.hid ⟨H2.out.1, H2.out.2.1⟩
     clear hr HW HF H2
     go_wp2_with fail
     refine bodyPost_ret (results_tmp2 rfl _ _ _) rfl ?_
     exact ⟨a, cap, by rw [HD.out]; exact congrArg (fun v => Ending.returned (.tuple #[.slice a l.length cap, .int .i64 v])) HKK.out, by rw [HD.out]; exact HE.out.1, HE.out.2⟩
    | true =>
     have HR : Hid (recs (s.drop k0) = (l ++ [r] ++ (recs (s.drop (k + n))).1, (k + n - k0) + (recs (s.drop (k + n))).2)) := Lib.hid (by
      rw [HW.out.rec_, recs_some HF.out, if_pos hr, List.drop_drop]
      have := HW.out.ge
      simp only [List.append_assoc, List.singleton_append, Prod.mk.injEq, true_and]
      omega)
     have HG := Lib.hid HW.out.ge
     clear hr HF HW
     have fc := H2.out.2.2.cell
     have f0 := fc 0
     have f1 := fc 1
     have f2 := fc 2
     have f3 := fc 3
     have f4 := fc 4
     clear fc
     simp only [rcc, List.getElem?_toArray, List.getElem?_cons_zero, List.getElem?_cons_succ] at f0 f1 f2 f3 f4
     obtain ⟨nb, hnb⟩ : ∃ nb, nb = w2.heap.size := ⟨_, rfl⟩
     obtain ⟨U, hU⟩ : ∃ U, U = w2.alloc (.cells #[.int .i64 r.k, .int .i64 r.i, .int .i64 r.t, .int .i64 r.v, Str r.dt] 45) := ⟨_, rfl⟩
     have H3 : Hid (Row U 5 a l.length cap (rcs l) ∧ Step [] (blks a) w U ∧ Rd U 5 (some ⟨nb, 0, none⟩) 1 (rcc r)) := by
      subst hU hnb
      exact ⟨H2.out.1.alloc _, H2.out.2.1.alloc _, rd_blk' (xs := rcc r) (Blk.new w2 _ _) 5 1 rfl⟩
     have HNB := Lib.hid hnb
     have HU := Lib.hid hU
     clear hnb hU
     go_wp2_with (at_builtin; rw [show w2.heap.size = nb from HNB.out.symm, show w2.alloc (.cells #[.int .i64 r.k, .int .i64 r.i, .int .i64 r.t, .int .i64 r.v, Str r.dt] 45) = U from HU.out.symm]; refine wpList_append_row rfl (.tmp 28) (.tmp 30) 32 32 rfl 45 i0 _ 5 48 Tryz.underlying32 HI.out.1 HI.out.2.1 HI.out.2.2.1 HI.out.2.2.2 rfl rfl H3.out.1 rfl (Src.rd 32 45 Tryz.underlying32 H3.out.2.2 (rcc_ones r)) (by unfold maxLen; omega) (by omega) (by omega) ?_; intro a3 c3 w3 r3 st3; have H4 := Lib.hid (And.intro r3 (H3.out.2.1.trans st3)); clear r3 st3)
     have HN : Hid (WrR s k0 w (k + n) (l ++ [r]) a3 c3 w3) := Lib.hid ⟨by have := HG.out; omega, HR.out, by rw [rcs_snoc, List.length_append]; exact H4.out.1, H4.out.2⟩
     clear H2 H3 H4 HR HNB HU f0 f1 f2 f3 f4
     go_roundw
     case rel => exact ⟨k + n, l ++ [r], a3, c3, by go_num, by simp, by omega, by simp; omega, HN⟩
     case measure => simp [intOf]; omega
  ·obtain rfl : k = s.length := by omega
   have HKK : Hid ((s.length : Int) = ((k0 + (s.length - k0) : Nat) : Int)) := Lib.hid (by have := HW.out.ge; omega)
   have HD : Hid (recs (s.drop k0) = (l, s.length - k0)) := Lib.hid (by rw [HW.out.rec_]; simp [recs_nil])
   have HE : Hid (Row W 5 a l.length cap (rcs l) ∧ Step [] (blks a) w W) := Lib.hid ⟨HW.out.row, HW.out.st⟩
   clear HW
   go_wp2_with fail
   refine bodyPost_ret (results_tmp2 rfl _ _ _) rfl ?_
   exact ⟨a, cap, by rw [HD.out]; exact congrArg (fun v => Ending.returned (.tuple #[.slice a l.length cap, .int .i64 v])) HKK.out, by rw [HD.out]; exact HE.out.1, HE.out.2⟩
set_option maxHeartbeats 4000000 in
theorem wbegins_any (s : List UInt8) (hs : s.length ≤ 8388608) (w : World) : Calls Tryz.prog 30 #[Str s] w fun e w' => e = .returned (.tuple #[.int .i64 ((begV s).1 : Int), .bool (begV s).2]) ∧ Step [] [] w w' := by
 have HS := Lib.hid hs
 clear hs
 go_enter Tryz.func30, Tryz.ntmps30
 go_wp2_with fail
 refine (wread_any s 0 (Nat.zero_le _) HS.out w).mono ?_
 intro e w1 hp
 obtain ⟨he, st⟩ := hp
 rw [List.drop_zero] at he
 have H1 := Lib.hid st
 clear st
 cases hf : frB s with
 | none =>
  simp only [hf] at he
  obtain ⟨r, nx, rfl⟩ := he
  have HD : Hid (begV s = (0, false)) := Lib.hid (by unfold begV; rw [hf])
  clear hf
  go_upto_region 2 with fail
  obtain ⟨xb, hxb⟩ : ∃ xb, xb = w1.heap.size := ⟨_, rfl⟩
  obtain ⟨V, hV⟩ : ∃ V, V = w1.alloc (.cells (rcc r).toArray 45) := ⟨_, rfl⟩
  have HE : Hid (Step [] [] w V) := by
   subst hV
   exact H1.out.alloc _
  change Code.wp _ _ _ _ (w1.alloc (.cells (rcc r).toArray 45))
  rw [← hV]
  try rw [← hxb]
  clear hV hxb H1
  go_wp2_with fail
  refine bodyPost_ret (results_tmp2 rfl _ _ _) rfl ?_
  exact ⟨by rw [HD.out]; rfl, HE.out⟩
 | some q =>
  obtain ⟨r, n⟩ := q
  simp only [hf] at he
  subst he
  have hn := frB_len hf
  have HF := Lib.hid hf
  clear hf
  go_upto_region 2 with fail
  obtain ⟨xb, hxb⟩ : ∃ xb, xb = w1.heap.size := ⟨_, rfl⟩
  obtain ⟨V, hV⟩ : ∃ V, V = w1.alloc (.cells (rcc r).toArray 45) := ⟨_, rfl⟩
  have HE : Hid (Step [] [] w V ∧ Blk V xb 45 (rcc r).toArray) := by
   subst hV hxb
   exact ⟨H1.out.alloc _, Blk.new w1 _ _⟩
  change Code.wp _ _ _ _ (w1.alloc (.cells (rcc r).toArray 45))
  rw [← hV]
  try rw [← hxb]
  clear hV hxb H1
  by_cases hh : r = ⟨1, r.i, 0, 0, []⟩
  ·obtain ⟨i, rfl⟩ : ∃ i, r = ⟨1, i, 0, 0, []⟩ := ⟨_, hh⟩
   have HD : Hid (begV s = (n, decide (i ≤ ((recs (s.drop n)).1.length : Int)))) := Lib.hid (by unfold begV; rw [HF.out]; simp)
   clear hh
   have fc := HE.out.2.cell
   have f0 := fc 0
   have f1 := fc 1
   have f2 := fc 2
   have f3 := fc 3
   have f4 := fc 4
   clear fc
   simp only [rcc, List.getElem?_toArray, List.getElem?_cons_zero, List.getElem?_cons_succ] at f0 f1 f2 f3 f4
   go_wp2_with fail
   refine (wrecords_any s n hn.2.1 HS.out V).mono ?_
   rintro e w2 ⟨a, cap, rfl, _, st⟩
   have H2 : Hid (Step [] [] w w2 ∧ Blk w2 xb 45 (rcc ⟨1, i, 0, 0, []⟩).toArray) := Lib.hid ⟨(HE.out.1.trans (st.drop (by simp))), HE.out.2.step st (by simp)⟩
   clear st HE f0 f1 f2 f3 f4
   obtain ⟨m, hm⟩ : ∃ m, m = (recs (s.drop n)).1.length := ⟨_, rfl⟩
   have HM := Lib.hid hm
   rw [← hm]
   clear hm
   have fc := H2.out.2.cell
   have f0 := fc 0
   have f1 := fc 1
   have f2 := fc 2
   have f3 := fc 3
   have f4 := fc 4
   clear fc
   simp only [rcc, List.getElem?_toArray, List.getElem?_cons_zero, List.getElem?_cons_succ] at f0 f1 f2 f3 f4
   go_wp2_with fail
   go_quiet (fail)
   go_wp2_with fail
   refine bodyPost_ret (results_tmp2 rfl _ _ _) rfl ?_
   exact ⟨by rw [HD.out, ← HM.out]; rfl, H2.out.1.drewN _⟩
  ·have HD : Hid (begV s = (0, false)) := Lib.hid (by unfold begV; rw [HF.out]; simp only; rw [if_neg hh])
   obtain ⟨rk, ri, rt, rv, rd⟩ := r
   by_cases hk : rk = 1
   ·subst hk
    by_cases ht : rt = 0
    ·subst ht
     by_cases hv : rv = 0
     ·subst hv
      have hd : ¬ rd = [] := by rintro rfl; exact hh rfl
      have hd2 : (rd == []) = false := by simpa using hd
      have hd3 : rd.isEmpty = false := by simpa using hd
      clear hh
      have fc := HE.out.2.cell
      have f0 := fc 0
      have f1 := fc 1
      have f2 := fc 2
      have f3 := fc 3
      have f4 := fc 4
      clear fc
      simp only [rcc, List.getElem?_toArray, List.getElem?_cons_zero, List.getElem?_cons_succ] at f0 f1 f2 f3 f4
      go_wp2_with fail
      all_goals
       refine bodyPost_ret (results_tmp2 rfl _ _ _) rfl ?_
       exact ⟨by rw [HD.out]; rfl, HE.out.1⟩
     ·clear hh
      have hv2 : (rv == 0) = false := by simpa using hv
      have fc := HE.out.2.cell
      have f0 := fc 0
      have f1 := fc 1
      have f2 := fc 2
      have f3 := fc 3
      have f4 := fc 4
      clear fc
      simp only [rcc, List.getElem?_toArray, List.getElem?_cons_zero, List.getElem?_cons_succ] at f0 f1 f2 f3 f4
      go_wp2_with fail
      all_goals
       refine bodyPost_ret (results_tmp2 rfl _ _ _) rfl ?_
       exact ⟨by rw [HD.out]; rfl, HE.out.1⟩
    ·clear hh
     have ht2 : (rt == 0) = false := by simpa using ht
     have fc := HE.out.2.cell
     have f0 := fc 0
     have f1 := fc 1
     have f2 := fc 2
     have f3 := fc 3
     have f4 := fc 4
     clear fc
     simp only [rcc, List.getElem?_toArray, List.getElem?_cons_zero, List.getElem?_cons_succ] at f0 f1 f2 f3 f4
     go_wp2_with fail
     all_goals
      refine bodyPost_ret (results_tmp2 rfl _ _ _) rfl ?_
      exact ⟨by rw [HD.out]; rfl, HE.out.1⟩
   ·have q1 : (rk != 1) = true := by simpa using hk
    clear hh hk
    have fc := HE.out.2.cell
    have f0 := fc 0
    have f1 := fc 1
    have f2 := fc 2
    have f3 := fc 3
    have f4 := fc 4
    clear fc
    simp only [rcc, List.getElem?_toArray, List.getElem?_cons_zero, List.getElem?_cons_succ] at f0 f1 f2 f3 f4
    go_wp2_with fail
    refine bodyPost_ret (results_tmp2 rfl _ _ _) rfl ?_
    exact ⟨by rw [HD.out]; rfl, HE.out.1⟩

end Go.Proofs.YtnkbphecabnnaaaGreatDoor
namespace Go.Proofs.YtnkbphecabnnaaaGreatDoor
open Go.RowKit Go.Lib Go.Maps
set_option linter.unusedSimpArgs false
set_option linter.unusedVariables false
set_option maxRecDepth 100000

theorem Tryz.info_wint : (Tryz.prog.info? 3).map (fun i => (i.zero, i.size, i.bytes)) = some (some (.int .i64 0), 1, 8) := by kernel_rfl
theorem rd_rc {w : World} {l : List Rc} {g off : Nat} {sp n} (h : Rd w 5 (some ⟨g, off, sp⟩) n (rcs l)) {k : Nat} {x : Rc} (hx : l[k]? = some x) :
  w.cell? ⟨g, off + k * 5, none⟩ = some (.int .i64 x.k) ∧ w.cell? ⟨g, off + k * 5 + 1, none⟩ = some (.int .i64 x.i) ∧ w.cell? ⟨g, off + k * 5 + 2, none⟩ = some (.int .i64 x.t) ∧ w.cell? ⟨g, off + k * 5 + 3, none⟩ = some (.int .i64 x.v) ∧ w.cell? ⟨g, off + k * 5 + 4, none⟩ = some (Str x.dt) :=
 ⟨rd_fl rcc 5 rcc_len h hx 0 (by omega) _ rfl, rd_fl rcc 5 rcc_len h hx 1 (by omega) _ rfl, rd_fl rcc 5 rcc_len h hx 2 (by omega) _ rfl, rd_fl rcc 5 rcc_len h hx 3 (by omega) _ rfl, rd_fl rcc 5 rcc_len h hx 4 (by omega) _ rfl⟩
def FrsP (l : List Rc) (w : World) (e : Ending) (w' : World) : Prop := ∃ b n c xs, e = .returned (.tuple #[.slice b n c, .bool (l.all rightRc)]) ∧ Row w' 1 b n c xs ∧ Step [] (blks b) w w' ∧ ((l.all rightRc) = true → n = (framesB l).length ∧ xs = (framesB l).map bv)
structure FrR (l : List Rc) (w : World) (j : Nat) (b : Option Addr) (n c : Nat) (W : World) : Prop where
 all : ((l.take j).all rightRc) = true
 nn : n = (framesB (l.take j)).length
 row : Row W 1 b n c ((framesB (l.take j)).map bv)
 st : Step [] (blks b) w W
/-- Few records, and small ones. -/
structure FewRc (l : List Rc) : Prop where
 len : l.length ≤ 1000
 dt : ∀ r ∈ l, r.dt.length ≤ 2000
theorem frames_few {l : List Rc} (h : FewRc l) (hr : (l.all rightRc) = true) : (framesB l).length ≤ 2053000 := by
 have h1 := framesB_len (n := 2000) (l := l) fun r hm => ⟨List.all_eq_true.1 hr r hm, h.dt r hm⟩
 have := h.len
 omega
theorem FewRc.take {l : List Rc} (h : FewRc l) (j : Nat) : FewRc (l.take j) := ⟨by rw [List.length_take]; have := h.len; omega, fun r hr => h.dt r (List.mem_of_mem_take hr)⟩
theorem frames_snoc (l : List Rc) (r : Rc) : framesB (l ++ [r]) = framesB l ++ frameB r := by simp [framesB]
set_option maxHeartbeats 4000000 in
theorem wframes_any (l : List Rc) (a : Option Addr) (cap : Nat) (w : World) (hr : Rd w 5 a l.length (rcs l)) (hf : FewRc l) : Calls Tryz.prog 34 #[.slice a l.length cap] w (FrsP l w) := by
 obtain ⟨i0, hi, hz0, hz1, hz2⟩ := info_parts Tryz.info_bytes
 have HI := Lib.hid (And.intro hi (And.intro hz0 (And.intro hz1 hz2)))
 clear hi hz0 hz1 hz2
 have hll : l.length ≤ 1000 := hf.len
 have HX := Lib.hid (And.intro hf hr)
 clear hf hr
 obtain ⟨N, hN⟩ : ∃ N, N = l.length := ⟨_, rfl⟩
 have HN := Lib.hid hN
 rw [← hN] at hll ⊢
 clear hN
 go_enter Tryz.func34, Tryz.ntmps34
 go_wp2_with fail
 go_loopw [9, 4] (fun i o W => ∃ (j : Nat) (b : Option Addr) (n c : Nat), i = .int .i64 j ∧ j ≤ N ∧ o = .slice b n c ∧ n ≤ 2053000 ∧ Hid (FrR l w j b n c W)) (fun i _ _ => N - (intOf i).toNat)
 case atStart => exact ⟨0, none, 0, 0, rfl, by omega, rfl, by omega, Lib.hid ⟨rfl, rfl, Row.none _ _, by simpa [blks] using Step.refl [] w⟩⟩
 case round =>
  rename World => W
  obtain ⟨j, b, n, c, rfl, hj, rfl, hn, HW⟩ := hrel
  by_cases hlt : j < N
  ·have hlt' : (j : Int) < (N : Int) := by omega
   obtain ⟨r, hx⟩ : ∃ r, l[j]? = some r := ⟨_, List.getElem?_eq_getElem (by rw [← HN.out]; exact hlt)⟩
   have hrd := HX.out.2.step0 HW.out.st
   rw [← HN.out] at hrd
   obtain ⟨g, off, hs1⟩ := hrd.some_ (by omega)
   rw [hs1] at hrd
   obtain ⟨z0, z1, z2, z3, z4⟩ := rd_rc hrd hx
   have gl : g < W.heap.size := by have := World.block_lt_of_cell? _ _ z0; simpa using this
   have hdt : r.dt.length ≤ 2000 := HX.out.1.dt r (List.mem_of_getElem? hx)
   have HT : Hid (l.take (j + 1) = l.take j ++ [r]) := Lib.hid (by rw [List.take_add_one, hx]; rfl)
   have HXJ := Lib.hid hx
   have HS1 := Lib.hid hs1
   subst hs1
   clear hx hrd
   go_upto_region 5 with fail
   obtain ⟨xb, hxb⟩ : ∃ xb, xb = W.heap.size := ⟨_, rfl⟩
   obtain ⟨V, hV⟩ : ∃ V, V = W.alloc (.cells (rcc r).toArray 45) := ⟨_, rfl⟩
   have H1 : Hid (Row V 1 b n c ((framesB (l.take j)).map bv) ∧ Step [] (blks b) w V ∧ Blk V xb 45 (rcc r).toArray) := by
    subst hV hxb
    exact ⟨HW.out.row.alloc _, HW.out.st.alloc _, Blk.new W _ _⟩
   change Code.wp _ _ _ _ (W.alloc (.cells (rcc r).toArray 45))
   rw [← hV]
   try rw [← hxb]
   clear hV hxb z0 z1 z2 z3 z4
   have fc := H1.out.2.2.cell
   have f0 := fc 0
   have f1 := fc 1
   have f2 := fc 2
   have f3 := fc 3
   have f4 := fc 4
   clear fc
   simp only [rcc, List.getElem?_toArray, List.getElem?_cons_zero, List.getElem?_cons_succ] at f0 f1 f2 f3 f4
   go_wp2_with fail
   refine (wright_any r V (by omega)).mono ?_
   rintro e w2 ⟨rfl, st⟩
   have H2 : Hid (Row w2 1 b n c ((framesB (l.take j)).map bv) ∧ Step [] (blks b) w w2 ∧ Blk w2 xb 45 (rcc r).toArray) := Lib.hid ⟨H1.out.1.step st (by simp), H1.out.2.1.trans (st.keep _), H1.out.2.2.step st (by simp)⟩
   clear st H1 f0 f1 f2 f3 f4
   cases hrr : rightRc r with
   | false =>
    have HA : Hid ((l.all rightRc) = false) := Lib.hid (by rw [List.all_eq_false]; exact ⟨r, List.mem_of_getElem? HXJ.out, by rw [hrr]; simp⟩)
    clear hrr
    go_wp2_with fail
    refine bodyPost_ret (results_tmp2 rfl _ _ _) rfl ?_
    exact ⟨none, 0, 0, [], by rw [HA.out]; rfl, Row.none _ _, by simpa [blks] using H2.out.2.1.drop (S'' := []) (by simp), by rw [HA.out]; intro h; cases h⟩
   | true =>
    have HO := Lib.hid (And.intro (rightRc_ok hrr).1 hrr)
    have hfl : (frameB r).length ≤ 2053 := by have h1 := frame_len r; have h2 := pay_len HO.out.1; omega
    clear hrr
    have fc := H2.out.2.2.cell
    have f0 := fc 0
    have f1 := fc 1
    have f2 := fc 2
    have f3 := fc 3
    have f4 := fc 4
    clear fc
    simp only [rcc, List.getElem?_toArray, List.getElem?_cons_zero, List.getElem?_cons_succ] at f0 f1 f2 f3 f4
    go_wp2_with fail
    refine (wframe_any r HO.out.1 w2).mono ?_
    rintro e w3 ⟨a3, c3, rfl, r3, st3⟩
    have st30 : Step [] [] w2 w3 := st3.drop (by simp)
    have H3 : Hid (Row w3 1 b n c ((framesB (l.take j)).map bv) ∧ Step [] (blks b) w w3 ∧ Rd w3 1 a3 (frameB r).length ((frameB r).map bv)) := Lib.hid ⟨H2.out.1.step st30 (by simp), H2.out.2.1.trans (st30.keep _), r3.rd⟩
    clear st3 st30 r3 H2 f0 f1 f2 f3 f4
    obtain ⟨m, hm⟩ : ∃ m, m = (frameB r).length := ⟨_, rfl⟩
    have HM := Lib.hid hm
    rw [← hm] at hfl H3 ⊢
    clear hm
    go_upto_region 8 with (at_builtin; refine wpList_append_row rfl (.tmp 16) (.tmp 18) 22 22 rfl 5 i0 _ 1 1 Tryz.underlying22 HI.out.1 HI.out.2.1 HI.out.2.2.1 HI.out.2.2.2 rfl rfl H3.out.1 rfl (Src.rd 22 5 Tryz.underlying22 H3.out.2.2 one_of_map) (by unfold maxLen; omega) (by omega) (by omega) ?_; intro a4 c4 w4 r4 st4; have H4 := Lib.hid (And.intro r4 (H3.out.2.1.trans st4)); clear r4 st4)
    have HR : Hid (FrR l w (j + 1) a4 (n + m) c4 w4) := Lib.hid ⟨by rw [HT.out, List.all_append, HW.out.all]; simp [HO.out.2], by rw [HT.out, frames_snoc, List.length_append, ← HW.out.nn, HM.out], by rw [HT.out, frames_snoc, List.map_append]; exact H4.out.1, H4.out.2⟩
    have hn2 : n + m ≤ 2053000 := by
     have h1 := HR.out.nn
     have h2 := frames_few (HX.out.1.take (j + 1)) HR.out.all
     omega
    clear H3 H4 HW HT HM
    go_wp2_with fail
    go_roundw
    case rel => exact ⟨j + 1, a4, n + m, c4, by go_num, by omega, rfl, hn2, HR⟩
    case measure => simp [intOf]; omega
  ·obtain rfl : j = N := by omega
   have HA : Hid (l.take j = l) := Lib.hid (List.take_of_length_le (by rw [← HN.out]; exact Nat.le_refl _))
   have HW2 := HW.out
   have h1 := HW2.all
   have h2 := HW2.nn
   have h3 := HW2.row
   rw [HA.out] at h1 h2 h3
   have HE := Lib.hid (And.intro h1 (And.intro h2 (And.intro h3 HW2.st)))
   clear h1 h2 h3 HW2 HW
   go_wp2_with fail
   refine bodyPost_ret (results_tmp2 rfl _ _ _) rfl ?_
   exact ⟨b, n, c, _, by rw [HE.out.1]; rfl, HE.out.2.2.1, HE.out.2.2.2, fun _ => ⟨HE.out.2.1, rfl⟩⟩
def sgL (l : List (List UInt8)) : List Nat := (l.map numW).filter fun n => decide (0 < n)
theorem sgL_take (l : List (List UInt8)) (j : Nat) (f : List UInt8) (h : l[j]? = some f) : sgL (l.take (j + 1)) = sgL (l.take j) ++ (if 0 < numW f then [numW f] else []) := by
 rw [List.take_add_one, h]
 simp only [sgL, Option.toList_some, List.map_append, List.filter_append, List.map_cons, List.map_nil, List.filter_cons, List.filter_nil, decide_eq_true_eq]
def nvs (l : List Nat) : List Value := l.map fun n : Nat => Value.int .i64 (n : Int)
def SegP (s : St) (w : World) (e : Ending) (w' : World) : Prop := ∃ a cap, e = .returned (.slice a (segS s).length cap) ∧ Row w' 1 a (segS s).length cap (nvs (segS s)) ∧ Step [] (blks a) w w'
theorem nvs_one (l : List Nat) : ∀ u ∈ nvs l, u.oneCell' = true := by
 intro u hu
 obtain ⟨n, _, rfl⟩ := List.mem_map.1 hu
 rfl
structure SegR (fs : List (List UInt8)) (w : World) (j : Nat) (b : Option Addr) (n c : Nat) (W : World) : Prop where
 nn : n = (sgL (fs.take j)).length
 row : Row W 1 b n c (nvs (sgL (fs.take j)))
 st : Step [] (blks b) w W
set_option maxHeartbeats 4000000 in
theorem wsegments_any (w : World) (S : List Nat) (d : Nat) (s : St) (h : Dk w S d s) (hB : StB s) (hnm : NmW s.E) : Calls Tryz.prog 27 #[.pointer (some ⟨d, 0, none⟩)] w (SegP s w) := by
 obtain ⟨i0, hi, hz0, hz1, hz2⟩ := info_parts Tryz.info_wint
 have HI := Lib.hid (And.intro hi (And.intro hz0 (And.intro hz1 hz2)))
 clear hi hz0 hz1 hz2
 have HX := Lib.hid (And.intro h (And.intro hB hnm))
 clear h hB hnm
 go_enter Tryz.func27, Tryz.ntmps27
 go_wp2_with fail
 refine (names_any w S d s HX.out.1 HX.out.2.1).mono ?_
 rintro e w1 ⟨na, ncap, rfl, nrow, nst⟩
 obtain ⟨fs, hfs⟩ : ∃ fs, fs = namesS s := ⟨_, rfl⟩
 have hlen : fs.length ≤ 1099511627776 := by
  rw [hfs]
  unfold namesS
  split
  ·simp
  ·rw [List.length_map]; exact HX.out.2.1.len
 have HNM : Hid (∀ f ∈ fs, ∃ n, n ≤ 999999999999 ∧ f = fileW n) := Lib.hid (by
  rw [hfs]
  intro f hf
  unfold namesS at hf
  split at hf
  ·simp at hf
  ·obtain ⟨e, he, rfl⟩ := List.mem_map.1 hf
   exact HX.out.2.2 e he)
 have HSG : Hid (segS s = sgL fs) := Lib.hid (by rw [hfs]; rfl)
 rw [← hfs] at nrow ⊢
 have H0 : Hid (Rd w1 1 na fs.length (fs.map encStr) ∧ Step [] [] w w1) := Lib.hid ⟨nrow.rd, nst.drop (by simp)⟩
 clear hfs nrow nst
 obtain ⟨N, hN⟩ : ∃ N, N = fs.length := ⟨_, rfl⟩
 have HN := Lib.hid hN
 rw [← hN] at hlen H0 ⊢
 clear hN
 go_wp2_with fail
 go_loopw [10, 3] (fun i o W => ∃ (j : Nat) (b : Option Addr) (n c : Nat), i = .int .i64 j ∧ j ≤ N ∧ o = .slice b n c ∧ n ≤ j ∧ Hid (SegR fs w1 j b n c W)) (fun i _ _ => N - (intOf i).toNat)
 case atStart => exact ⟨0, none, 0, 0, rfl, by omega, rfl, by omega, Lib.hid ⟨rfl, Row.none _ _, by simpa [blks] using Step.refl [] w1⟩⟩
 case round =>
  rename World => W
  obtain ⟨j, b, n, c, rfl, hj, rfl, hn, HW⟩ := hrel
  by_cases hlt : j < N
  ·have hlt' : (j : Int) < (N : Int) := by omega
   obtain ⟨f, hx⟩ : ∃ f, fs[j]? = some f := ⟨_, List.getElem?_eq_getElem (by rw [← HN.out]; exact hlt)⟩
   have hrd := H0.out.1.step0 HW.out.st
   obtain ⟨g, off, hs1⟩ := hrd.some_ (by omega)
   have z0 : W.cell? ⟨g, off + j, none⟩ = some (Str f) := hrd.cell g off none hs1 j _ (by rw [List.getElem?_map, hx]; rfl)
   have gl : g < W.heap.size := by have := World.block_lt_of_cell? _ _ z0; simpa using this
   obtain ⟨q, hq1, hq2⟩ := HNM.out f (List.mem_of_getElem? hx)
   have HT := Lib.hid (sgL_take fs j f hx)
   have HQ : Hid (numW f = q) := Lib.hid (by rw [hq2]; exact numW_file hq1)
   have HF := Lib.hid hq2
   subst hs1
   clear hx hrd hq2
   go_wp2_with fail
   rw [HF.out]
   refine (wnumber_any q hq1 W).mono ?_
   rintro e w2 ⟨rfl, st⟩
   have H1 : Hid (Row w2 1 b n c (nvs (sgL (fs.take j))) ∧ Step [] (blks b) w1 w2) := Lib.hid ⟨HW.out.row.step st (by simp), HW.out.st.trans (st.keep _)⟩
   clear st z0
   by_cases hq0 : 0 < q
   ·have hq3 : (0 : Int) < (q : Int) := by omega
    obtain ⟨nb, hnb⟩ : ∃ nb, nb = w2.heap.size := ⟨_, rfl⟩
    obtain ⟨U, hU⟩ : ∃ U, U = w2.alloc (.cells #[.int .i64 (q : Int)] 3) := ⟨_, rfl⟩
    have H3 : Hid (Row U 1 b n c (nvs (sgL (fs.take j))) ∧ Step [] (blks b) w1 U ∧ Rd U 1 (some ⟨nb, 0, none⟩) 1 (nvs [q])) := by
     subst hU hnb
     exact ⟨H1.out.1.alloc _, H1.out.2.alloc _, rd_blk' (xs := nvs [q]) (Blk.new w2 _ _) 1 1 rfl⟩
    have HNB := Lib.hid hnb
    have HU := Lib.hid hU
    clear hnb hU
    go_upto_region 8 with (at_builtin; rw [show w2.heap.size = nb from HNB.out.symm, show w2.alloc (.cells #[.int .i64 (q : Int)] 3) = U from HU.out.symm]; refine wpList_append_row rfl (.tmp 18) (.tmp 20) 42 42 rfl 3 i0 _ 1 8 Tryz.underlying42 HI.out.1 HI.out.2.1 HI.out.2.2.1 HI.out.2.2.2 rfl rfl H3.out.1 rfl (Src.rd 42 3 Tryz.underlying42 H3.out.2.2 (nvs_one _)) (by unfold maxLen; omega) (by omega) (by omega) ?_; intro a3 c3 w3 r3 st3; have H4 := Lib.hid (And.intro r3 (H3.out.2.1.trans st3)); clear r3 st3)
    have HR : Hid (SegR fs w1 (j + 1) a3 (n + 1) c3 w3) := Lib.hid (by
     have h1 := HT.out
     rw [HQ.out, if_pos hq0] at h1
     refine ⟨by rw [h1, List.length_append, ← HW.out.nn]; rfl, ?_, H4.out.2⟩
     rw [h1]
     have h2 := H4.out.1
     rwa [← show nvs (sgL (fs.take j) ++ [q]) = nvs (sgL (fs.take j)) ++ nvs [q] by simp [nvs]] at h2)
    clear H3 H4 HW HT HNB HU
    go_wp2_with fail
    go_roundw
    case rel => exact ⟨j + 1, a3, n + 1, c3, by go_num, by omega, by go_num, by omega, HR⟩
    case measure => simp [intOf]; omega
   ·have hq3 : ¬ (0 : Int) < (q : Int) := by omega
    have HR : Hid (SegR fs w1 (j + 1) b n c w2) := Lib.hid (by
     have h1 := HT.out
     rw [HQ.out, if_neg hq0, List.append_nil] at h1
     exact ⟨by rw [h1]; exact HW.out.nn, by rw [h1]; exact H1.out.1, H1.out.2⟩)
    clear HW HT H1
    go_wp2_with fail
    go_roundw
    case rel => exact ⟨j + 1, b, n, c, by go_num, by omega, rfl, by omega, HR⟩
    case measure => simp [intOf]; omega
  ·obtain rfl : j = N := by omega
   have HA : Hid (fs.take j = fs) := Lib.hid (List.take_of_length_le (by rw [← HN.out]; exact Nat.le_refl _))
   have HW2 := HW.out
   have h2 := HW2.nn
   have h3 := HW2.row
   rw [HA.out] at h2 h3
   have HE := Lib.hid (And.intro h2 (And.intro h3 (H0.out.2.trans HW2.st)))
   clear h2 h3 HW2 HW
   go_wp2_with fail
   refine bodyPost_ret (results_tmp rfl _ _ _) rfl ?_
   refine ⟨b, c, ?_, ?_, HE.out.2.2⟩
   ·rw [HSG.out, ← HE.out.1]; rfl
   ·rw [HSG.out, ← HE.out.1]; exact HE.out.2.1
abbrev wlc (d : Nat) (x : Wl) : Array Value := #[.pointer (some ⟨d, 0, none⟩), .int .i64 x.f, .int .i64 x.l, .int .i64 x.z, .bool x.o]
set_option maxHeartbeats 1000000 in
theorem wnote_any (w : World) (b d : Nat) (x : Wl) (e0 : Int) (h : Blk w b 66 (wlc d x)) : Calls Tryz.prog 36 #[.pointer (some ⟨b, 0, none⟩), .int .i64 e0] w fun e w' => e = .returned (.int .i64 e0) ∧ Blk w' b 66 (wlc d (noteW x e0)) ∧ Step [b] [b] w w' := by
 have c4 := h.cell 4
 simp only [List.getElem?_toArray, List.getElem?_cons_zero, List.getElem?_cons_succ] at c4
 have f4 := h.frozen 4
 have fl := h.lt
 have HB := Lib.hid h
 clear h
 go_enter Tryz.func36, Tryz.ntmps36
 by_cases h0 : e0 = 0
 ·have q0 : (e0 != 0) = false := by simpa using h0
  have HD : Hid (noteW x e0 = x) := Lib.hid (by unfold noteW; rw [if_neg (fun k => k.1 h0)])
  clear h0
  go_wp2_with fail
  exact bodyPost_ret (results_tmp rfl _ _ _) rfl ⟨rfl, by rw [HD.out]; exact HB.out, Step.refl _ _⟩
 have q0 : (e0 != 0) = true := by simpa using h0
 by_cases h6 : e0 = 6
 ·have q6 : (e0 != 6) = false := by simpa using h6
  have HD : Hid (noteW x e0 = x) := Lib.hid (by unfold noteW; rw [if_neg (fun k => k.2 h6)])
  clear h0 h6
  go_wp2_with fail
  exact bodyPost_ret (results_tmp rfl _ _ _) rfl ⟨rfl, by rw [HD.out]; exact HB.out, Step.refl _ _⟩
 have q6 : (e0 != 6) = true := by simpa using h6
 have HD : Hid (noteW x e0 = ⟨x.f, x.l, x.z, true⟩) := Lib.hid (by unfold noteW; rw [if_pos ⟨h0, h6⟩])
 clear h0 h6
 go_wp2_with fail
 refine bodyPost_ret (results_tmp rfl _ _ _) rfl ⟨rfl, ?_, (Step.refl [b] w).setCell (p := ⟨b, 4, none⟩) (.inl (by simp)) _⟩
 rw [HD.out]
 simpa using HB.out.set 4 (.bool true)

end Go.Proofs.YtnkbphecabnnaaaGreatDoor
namespace Go.Proofs.YtnkbphecabnnaaaGreatDoor
open Go.RowKit Go.Lib Go.Maps
set_option linter.unusedSimpArgs false
set_option linter.unusedVariables false
set_option maxRecDepth 100000

theorem Step.beside {S S' T T' : List Nat} {w W W1 : World} (h : Step S S' w W) (k : Step T T' W W1) (hT : ∀ g, g ∈ T → w.heap.size ≤ g) : Step S S' w W1 :=
  ⟨k.os.trans h.os, k.tape.trans h.tape, k.output.trans h.output, Nat.le_trans h.size k.size,
   fun i hi hn => (k.block i (Nat.lt_of_lt_of_le hi h.size) (fun hm => by have := hT i hm; omega)).trans (h.block i hi hn), h.fresh⟩
structure OpW (w W : World) (S0 S : List Nat) (d b : Nat) (x : Wl) (s : St) (sa : Option Addr) (all : List Nat) (a : Option Addr) (cap : Nat) (out : List Rc) : Prop where
  dk : Dk W S d s
  wl : Blk W b 66 (wlc d x)
  sg : Rd W 1 sa all.length (nvs all)
  row : Row W 5 a out.length cap (rcs out)
  nb : b ∉ S
  ns : ∀ g, g ∈ blks sa → g ∉ S ∧ g ≠ b
  na : ∀ g, g ∈ blks a → g ∉ S ∧ g ≠ b ∧ g ∉ blks sa
  lb : w.heap.size ≤ b
  la : ∀ g, g ∈ blks a → w.heap.size ≤ g
  ls : ∀ g, g ∈ blks sa → g < W.heap.size
  st : Step S0 S w W
section
variable {w W W1 : World} {S0 S S1 T T' : List Nat} {d b cap : Nat} {x : Wl} {s : St} {sa a : Option Addr} {all : List Nat} {out : List Rc}
theorem OpW.quiet (h : OpW w W S0 S d b x s sa all a cap out) (k : Step [] T W W1) : OpW w W1 S0 S d b x s sa all a cap out :=
  ⟨h.dk.keep k, h.wl.step k (by simp), h.sg.step0 k, h.row.step k (by simp), h.nb, h.ns, h.na, h.lb, h.la, fun g hg => Nat.lt_of_lt_of_le (h.ls g hg) k.size, h.st.trans ((k.drop (S'' := []) (by simp)).keep _)⟩
theorem OpW.turn (h : OpW w W S0 S d b x s sa all a cap out) {s1 : St} (hd : Dk W1 S1 d s1) (k : Step S S1 W W1) : OpW w W1 S0 S1 d b x s1 sa all a cap out :=
  ⟨hd, h.wl.step k h.nb, h.sg.step k (fun g hg => (h.ns g hg).1), h.row.step k (fun g hg => (h.na g hg).1), k.notin h.wl.lt h.nb,
   fun g hg => ⟨k.notin (h.ls g hg) (h.ns g hg).1, (h.ns g hg).2⟩, fun g hg => ⟨k.notin (h.row.lt g hg) (h.na g hg).1, (h.na g hg).2⟩, h.lb, h.la, fun g hg => Nat.lt_of_lt_of_le (h.ls g hg) k.size, h.st.trans k⟩
theorem OpW.set (h : OpW w W S0 S d b x s sa all a cap out) {x1 : Wl} (hw : Blk W1 b 66 (wlc d x1)) (k : Step [b] [b] W W1) : OpW w W1 S0 S d b x1 s sa all a cap out :=
  ⟨h.dk.step k (fun y hy hm => by simp only [List.mem_singleton] at hm; subst hm; exact h.nb hy), hw, h.sg.step k (fun g hg hm => by simp only [List.mem_singleton] at hm; exact (h.ns g hg).2 hm), h.row.step k (fun g hg hm => by simp only [List.mem_singleton] at hm; exact (h.na g hg).2.1 hm), h.nb, h.ns, h.na, h.lb, h.la,
   fun g hg => Nat.lt_of_lt_of_le (h.ls g hg) k.size, h.st.beside k (fun g hg => by simp only [List.mem_singleton] at hg; subst hg; exact h.lb)⟩
theorem OpW.grow (h : OpW w W S0 S d b x s sa all a cap out) {a1 : Option Addr} {cap1 : Nat} {out1 : List Rc} (hr : Row W1 5 a1 out1.length cap1 (rcs out1)) (k : Step (blks a) (blks a1) W W1) : OpW w W1 S0 S d b x s sa all a1 cap1 out1 :=
  ⟨h.dk.step k (fun y hy hm => (h.na y hm).1 hy), h.wl.step k (fun hm => (h.na b hm).2.1 rfl), h.sg.step k (fun g hg hm => (h.na g hm).2.2 hg), hr, h.nb, h.ns,
   fun g hg => by
     rcases k.fresh g hg with h1 | h1
     · exact h.na g h1
     · exact ⟨fun hm => by have := h.dk.lt g hm; omega, fun e => by have := h.wl.lt; omega, fun hm => by have := h.ls g hm; omega⟩,
   h.lb, fun g hg => by
     rcases k.fresh g hg with h1 | h1
     · exact h.la g h1
     · exact Nat.le_trans h.st.size h1, fun g hg => Nat.lt_of_lt_of_le (h.ls g hg) k.size, h.st.beside k h.la⟩
end
theorem begV_le (t : List UInt8) : (begV t).1 ≤ t.length := by
  unfold begV
  cases hf : frB t with
  | none => simp
  | some q =>
    obtain ⟨r, n⟩ := q
    have := frB_len hf
    simp only
    split
    · simp only; omega
    · simp
theorem recs_few {t : List UInt8} (h : t.length ≤ 8388608) (p : Nat) : (recs (t.drop p)).1.length ≤ 1048576 := by
  have := recs_le (t.drop p)
  rw [List.length_drop] at this
  omega
/-- What Open makes of the way through the segments. -/
def opE (first : Nat) (r : Int × OpS) : Int × Wl × List Rc × St := if r.1 ≠ 0 then (r.1, ⟨0, 0, 0, false⟩, [], r.2.s) else (0, ⟨first, r.2.last, r.2.size, false⟩, r.2.out, r.2.s)
theorem openS_on {s : St} (h : s.off = false) : openS s = opE (firstS s (segS s)) (opLoop (firstS s (segS s)) (segS s) (opFirst s)) := by
  unfold openS opE
  rw [h]
  rfl
theorem opE_cons (first n : Nat) (r : List Nat) (o : OpS) : opE first (opLoop first (n :: r) o) = if (opStep first n o).1 ≠ 0 then ((opStep first n o).1, ⟨0, 0, 0, false⟩, [], (opStep first n o).2.s) else opE first (opLoop first r (opStep first n o).2) := by
  rw [opLoop]
  by_cases h : (opStep first n o).1 ≠ 0
  · rw [if_pos h, if_pos h]; unfold opE; rw [if_pos h]
  · rw [if_neg h, if_neg h]
theorem opE_nil (first : Nat) (o : OpS) : opE first (opLoop first [] o) = (0, ⟨first, o.last, o.size, false⟩, o.out, o.s) := rfl
theorem step_gone {first n : Nat} {o : OpS} (h : goneW first n o) : opStep first n o = ((removeS o.s (fileW n)).1, ⟨o.whole && decide (n < first), o.last, o.size, o.out, (removeS o.s (fileW n)).2⟩) := by
  unfold opStep; rw [if_pos h]
theorem step_cut {first n p : Nat} {o : OpS} (h : ¬ goneW first n o) {t : List UInt8} (ht : textW o.s n = t) (hp : fromW first n t = p) (hc : p + (recs (t.drop p)).2 < t.length) :
    opStep first n o = ((cutS o.s (fileW n) ((p + (recs (t.drop p)).2 : Nat) : Int)).1, ⟨false, n, p + (recs (t.drop p)).2, o.out ++ (recs (t.drop p)).1, (cutS o.s (fileW n) ((p + (recs (t.drop p)).2 : Nat) : Int)).2⟩) := by
  unfold opStep; rw [if_neg h, ht]; simp only; rw [hp, if_pos hc]
theorem step_keep {first n p : Nat} {o : OpS} (h : ¬ goneW first n o) {t : List UInt8} (ht : textW o.s n = t) (hp : fromW first n t = p) (hc : ¬ p + (recs (t.drop p)).2 < t.length) :
    opStep first n o = (0, ⟨o.whole, n, p + (recs (t.drop p)).2, o.out ++ (recs (t.drop p)).1, o.s⟩) := by
  unfold opStep; rw [if_neg h, ht]; simp only; rw [hp, if_neg hc]
theorem nm_remove {s : St} (h : NmW s.E) (f : List UInt8) : NmW (removeS s f).2.E := by
  unfold removeS onFile
  split
  · exact h
  · split
    · exact h
    · split
      · exact h
      · exact nm_del h _
theorem nm_cut {s : St} (h : NmW s.E) (f : List UInt8) (k : Int) : NmW (cutS s f k).2.E := by
  unfold cutS
  split
  · exact h
  · split
    · exact h
    · split
      · exact h
      · split
        · exact h
        · exact nm_mod h _ _ (cutF_n _)
theorem segS_le (s : St) : (segS s).length ≤ s.E.length := by
  unfold segS namesS
  refine Nat.le_trans (List.length_filter_le _ _) ?_
  rw [List.length_map]
  split
  · simp
  · simp
theorem segS_num {s : St} (h : NmW s.E) : ∀ n, n ∈ segS s → 0 < n ∧ n ≤ 999999999999 := by
  intro n hn
  unfold segS at hn
  rw [List.mem_filter, List.mem_map] at hn
  obtain ⟨⟨f, hf, rfl⟩, h0⟩ := hn
  refine ⟨by simpa using h0, ?_⟩
  unfold namesS at hf
  split at hf
  · simp at hf
  · obtain ⟨e, he, rfl⟩ := List.mem_map.1 hf
    obtain ⟨i, hi, e2⟩ := h e he
    rw [e2, numW_file hi]
    exact hi
/-- How Open ends. -/
def OpnP (q : Int × Wl × List Rc × St) (S : List Nat) (d : Nat) (w : World) (e : Ending) (w' : World) : Prop := ∃ S', Dk w' S' d q.2.2.2 ∧ Step S S' w w' ∧
  ((q.1 = 0 ∧ ∃ b a cap, e = .returned (.tuple #[.pointer (some ⟨b, 0, none⟩), .slice a q.2.2.1.length cap, .int .i64 0]) ∧ Blk w' b 66 (wlc d q.2.1) ∧ Row w' 5 a q.2.2.1.length cap (rcs q.2.2.1) ∧ b ∉ S' ∧ (∀ g, g ∈ blks a → g ∉ S' ∧ g ≠ b) ∧ w.heap.size ≤ b ∧ (∀ g, g ∈ blks a → w.heap.size ≤ g)) ∨
   (q.1 ≠ 0 ∧ e = .returned (.tuple #[.pointer none, .slice none 0 0, .int .i64 q.1])))

end Go.Proofs.YtnkbphecabnnaaaGreatDoor
