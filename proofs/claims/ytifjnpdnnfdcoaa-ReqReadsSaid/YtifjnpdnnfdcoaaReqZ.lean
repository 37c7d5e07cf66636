/-
  The reference's readActs. Condition: at most 2^40 bytes.
-/
import Derived.Test.YtifjnpdnnfdcoaaReqY
import Derived.Deep.DeepCutAuto
import Derived.Deep.CutBlock
namespace Go.Proofs.Ytifjnpdnnfdcoaa
open Go.RowKit
set_option linter.unusedSimpArgs false
set_option linter.unusedVariables false
set_option maxRecDepth 100000

theorem actsF_slen (n : Nat) (l : List Da) (s : RS) : (actsF n l s).2.s.length ≤ s.s.length := by
  induction n generalizing l s with
  | zero => simp [actsF]
  | succ n ih =>
    unfold actsF
    split
    · exact Nat.le_refl _
    · refine Nat.le_trans (ih _ _) ?_
      rcases actR_less s mostN with h | h
      · rw [h]; simp [rfail]
      · omega
theorem rdActsF_slen (s : RS) : (rdActsF s).2.s.length ≤ s.s.length := Nat.le_trans (actsF_slen _ _ _) (upto_len s _)
def ActsFP (p : Nat) (st : RS) (w : World) (e : Ending) (w' : World) : Prop :=
  ∃ a cap, e = .returned (.slice a (rdActsF st).1.length cap) ∧ Rd w' 7 a (rdActsF st).1.length (dacs (rdActsF st).1) ∧ Ref w' p (rdActsF st).2 ∧ Step [p] [p] w w' ∧ (∀ g ∈ blks a, w.heap.size ≤ g)
theorem Af.start {w : World} {p : Nat} {st : RS} (h : Ref w p st) (hs : st.s.length ≤ 1099511627776) : Af w (w.alloc (.cells #[] 80)) p st [] (some ⟨w.heap.size, 0, none⟩) 0 :=
  ⟨h.alloc _, Row.empty w _ 7, by have := (Step.refl [p] w).hold (.cells #[] 80); exact this.wide (fun _ h => h) (fun g hg => by simp [blks] at hg; rcases hg with rfl | rfl <;> simp), by simp [blks], Blk.lt h, hs⟩
set_option maxHeartbeats 16000000 in
theorem rdactsF_any (p : Nat) (st : RS) (w : World) (h : Ref w p st) (hs : st.s.length ≤ 1099511627776) :
    Calls Try.prog 63 #[.pointer (some ⟨p, 0, none⟩)] w (ActsFP p st w) := by
  have H0 : Hid (Af w (w.alloc (.cells #[] 80)) p st [] (some ⟨w.heap.size, 0, none⟩) 0) := Lib.hid (Af.start h hs)
  have hs2 := upto_len st mostN
  clear h
  obtain ⟨i0, hi, hz0, hz1, hz2⟩ := info_parts Try.info_do
  have HI := Lib.hid (And.intro hi (And.intro hz0 (And.intro hz1 hz2)))
  clear hi hz0 hz1 hz2
  go_enter Try.func63, Try.ntmps63
  go_wp2_with fail
  refine (af_upto H0.out mostN).mono ?_
  rintro e w1 ⟨rfl, t⟩
  have hn0 := upto_nat st mostN
  have hn1 := uptoQ_most st mostN (by simp [mostN])
  obtain ⟨N, hN⟩ : ∃ N : Nat, N = (upto st mostN).1.toNat := ⟨_, rfl⟩
  have hN2 : (upto st mostN).1 = (N : Int) := by omega
  have hN8 : N ≤ 4611686018427387903 := by have : mostN = 4611686018427387903 := rfl; omega
  obtain ⟨B, hB⟩ : ∃ B, B = (upto st mostN).2.s.length := ⟨_, rfl⟩
  have hB8 : B ≤ 1099511627776 := by omega
  obtain ⟨R, hR⟩ : ∃ R, R = rdActsF st := ⟨_, rfl⟩
  have HR := Lib.hid hR
  obtain ⟨a0, ha0⟩ : ∃ a0, a0 = some (⟨w.heap.size, 0, none⟩ : Addr) := ⟨_, rfl⟩
  rw [← ha0] at t ⊢
  have H1 : Hid (Af w w1 p (upto st mostN).2 [] a0 0 ∧ actsF N [] (upto st mostN).2 = R ∧ (upto st mostN).2.s.length ≤ B) := Lib.hid ⟨t, by rw [hR, rdActsF, hN]; rfl, by omega⟩
  rw [hN2]
  clear t hN hN2 hR hn0 hn1 H0 hB hs2 ha0
  go_wp2_with fail
  go_loopw [3, 5] (fun o i W => ∃ (k : Nat) (l : List Da) (a : Option Addr) (c : Nat) (st1 : RS), k ≤ N ∧ l.length ≤ B + 1 ∧ (st1.bad = false → l.length + st1.s.length ≤ B) ∧ i = .int .i64 k ∧ o = .slice a l.length c ∧ Hid (Af w W p st1 l a c ∧ actsF (N - k) l st1 = R)) (fun _ i _ => N - (intOf i).toNat)
  case atStart => exact ⟨0, [], a0, 0, _, by omega, by simp, by simp; intro _; exact H1.out.2.2, rfl, rfl, H1.out.1, H1.out.2.1⟩
  case round =>
    clear H1
    rename World => W
    obtain ⟨k, l, a, c, st1, hk, hl1, hl2, rfl, rfl, HW⟩ := hrel
    have pc1 := Blk.cell HW.out.1.1 1
    have pl := Blk.lt HW.out.1.1
    simp only [List.getElem?_toArray, List.getElem?_cons_zero, List.getElem?_cons_succ] at pc1
    by_cases hlt : k < N
    · have hlt' : (k : Int) < N := by omega
      cases hbd : st1.bad with
      | true =>
        rw [hbd] at pc1
        have HBD := Lib.hid hbd
        have HE : Hid ((l, st1) = R) := Lib.hid (by have := HW.out.2; rw [show N - k = N - (k + 1) + 1 by omega, actsF, if_pos hbd] at this; exact this)
        clear hbd
        go_wp2_with fail
        refine bodyPost_ret (results_tmp rfl _ _ _) rfl ⟨a, c, ?_, ?_, ?_, ?_, HW.out.1.2.2.2.1⟩
        · rw [← HR.out, ← HE.out]; rfl
        · rw [← HR.out, ← HE.out]; exact HW.out.1.2.1.rd
        · rw [← HR.out, ← HE.out]; exact HW.out.1.1
        · exact HW.out.1.2.2.1.drop (by simp)
      | false =>
        rw [hbd] at pc1
        have HBF := Lib.hid hbd
        have hl3 := hl2 hbd
        clear hl2 hbd
        go_wp2_with fail
        refine (af_upto HW.out.1 3).mono ?_
        rintro e W1 ⟨rfl, t⟩
        have u0 := upto_nat st1 3
        have u3 := uptoQ_most st1 3 (by omega)
        obtain ⟨kd, hkd⟩ : ∃ kd, kd = (upto st1 3).1 := ⟨_, rfl⟩
        obtain ⟨s1, hs1⟩ : ∃ s1, s1 = (upto st1 3).2 := ⟨_, rfl⟩
        rw [← hkd] at u0 u3 ⊢
        rw [← hs1] at t
        have HA0 : Hid (actR mostN st1 = if kd = 1 then (⟨kd, (rtext s1 mostN).1, (rtext (rtext s1 mostN).2 mostN).1, [], [], (upto (rtext (rtext s1 mostN).2 mostN).2 mostN).1, (upto (upto (rtext (rtext s1 mostN).2 mostN).2 mostN).2 mostN).1⟩, (upto (upto (rtext (rtext s1 mostN).2 mostN).2 mostN).2 mostN).2) else if kd = 2 then (⟨kd, [], [], (rtext s1 mostN).1, (rtext (rtext s1 mostN).2 mostN).1, 0, 0⟩, (rtext (rtext s1 mostN).2 mostN).2) else if kd = 3 then (⟨kd, (rtext s1 mostN).1, (rtext (rtext s1 mostN).2 mostN).1, [], [], 0, 0⟩, (rtext (rtext s1 mostN).2 mostN).2) else (⟨kd, [], [], [], [], 0, 0⟩, rfail)) := Lib.hid (by rw [hkd, hs1]; rfl)
        have HB := Lib.hid (Bf.new t ⟨kd, [], [], [], [], 0, 0⟩)
        have HSt : Hid (actsF (N - k) l st1 = R) := Lib.hid HW.out.2
        clear t hkd hs1 HW pc1 pl
        go_upto_region 7 with fail
        obtain ⟨eb, heb⟩ : ∃ eb, eb = W1.heap.size := ⟨_, rfl⟩
        obtain ⟨X0, hX0⟩ : ∃ X0, X0 = W1.alloc (.cells (dac ⟨kd, [], [], [], [], 0, 0⟩).toArray 80) := ⟨_, rfl⟩
        rw [← hX0, ← heb] at HB
        change Code.wp _ _ _ _ (W1.alloc (.cells (dac ⟨kd, [], [], [], [], 0, 0⟩).toArray 80))
        rw [← hX0, ← heb]
        clear hX0 heb
        have B0 := HB
        clear HB
        by_cases hk : kd = 1
        · skip
          have HA : Hid (actR mostN st1 = (⟨kd, (rtext s1 mostN).1, (rtext (rtext s1 mostN).2 mostN).1, [], [], (upto (rtext (rtext s1 mostN).2 mostN).2 mostN).1, (upto (upto (rtext (rtext s1 mostN).2 mostN).2 mostN).2 mostN).1⟩, (upto (upto (rtext (rtext s1 mostN).2 mostN).2 mostN).2 mostN).2)) := Lib.hid (by rw [HA0.out]; rw [if_pos hk])
          clear HA0
          have k0 : (kd == 0) = false := by simp [hk]
          have k1 : (kd == 1) = true := by simp [hk]
          have k2 : (kd == 2) = false := by simp [hk]
          have k3 : (kd == 3) = false := by simp [hk]
          have HKD := Lib.hid hk
          clear hk
          have vc := (B0.out.2.1).cell
          have v0 := vc 0
          have v1 := vc 1
          have v2 := vc 2
          have v3 := vc 3
          have v4 := vc 4
          have v5 := vc 5
          have v6 := vc 6
          clear vc
          simp only [dac, List.getElem?_toArray, List.getElem?_cons_zero, List.getElem?_cons_succ] at v0 v1 v2 v3 v4 v5 v6
          have vl := (B0.out.2.1).lt
          have vfz := (B0.out.2.1).frozen
          have vf0 := vfz 0
          have vf1 := vfz 1
          have vf2 := vfz 2
          have vf3 := vfz 3
          have vf4 := vfz 4
          have vf5 := vfz 5
          have vf6 := vfz 6
          clear vfz
          go_wp2_with fail
          refine (bf_text B0.out mostN).mono ?_
          rintro e X1 ⟨rfl, t⟩
          have B1 := Lib.hid t
          clear t v0 v1 v2 v3 v4 v5 v6 vl vf0 vf1 vf2 vf3 vf4 vf5 vf6
          have vc := (B1.out.2.1).cell
          have v0 := vc 0
          have v1 := vc 1
          have v2 := vc 2
          have v3 := vc 3
          have v4 := vc 4
          have v5 := vc 5
          have v6 := vc 6
          clear vc
          simp only [dac, List.getElem?_toArray, List.getElem?_cons_zero, List.getElem?_cons_succ] at v0 v1 v2 v3 v4 v5 v6
          have vl := (B1.out.2.1).lt
          have vfz := (B1.out.2.1).frozen
          have vf0 := vfz 0
          have vf1 := vfz 1
          have vf2 := vfz 2
          have vf3 := vfz 3
          have vf4 := vfz 4
          have vf5 := vfz 5
          have vf6 := vfz 6
          clear vfz
          go_upto_region 14 with fail
          obtain ⟨Y1, hW⟩ : ∃ W, W = (X1.setCell ⟨eb, 1, none⟩ (Str (rtext s1 mostN).1)) := ⟨_, rfl⟩
          have CY1 : Hid (Bf w Y1 p ((rtext s1 mostN).2) l a c eb (⟨kd, (rtext s1 mostN).1, [], [], [], 0, 0⟩)) := Lib.hid (B1.out.put (by rw [hW]; exact ((Step.refl [eb] X1).setCell (.inl (by simp)) _)) (by rw [hW]; have hq := (B1.out.2.1.set 1 (Str (rtext s1 mostN).1)); simpa [dac] using hq))
          rw [← hW]
          clear hW v0 v1 v2 v3 v4 v5 v6 vl vf0 vf1 vf2 vf3 vf4 vf5 vf6
          go_wp2_with fail
          refine (bf_text CY1.out mostN).mono ?_
          rintro e X2 ⟨rfl, t⟩
          have B2 := Lib.hid t
          clear t CY1 B1
          have vc := (B2.out.2.1).cell
          have v0 := vc 0
          have v1 := vc 1
          have v2 := vc 2
          have v3 := vc 3
          have v4 := vc 4
          have v5 := vc 5
          have v6 := vc 6
          clear vc
          simp only [dac, List.getElem?_toArray, List.getElem?_cons_zero, List.getElem?_cons_succ] at v0 v1 v2 v3 v4 v5 v6
          have vl := (B2.out.2.1).lt
          have vfz := (B2.out.2.1).frozen
          have vf0 := vfz 0
          have vf1 := vfz 1
          have vf2 := vfz 2
          have vf3 := vfz 3
          have vf4 := vfz 4
          have vf5 := vfz 5
          have vf6 := vfz 6
          clear vfz
          go_upto_region 15 with fail
          obtain ⟨Y2, hW⟩ : ∃ W, W = (X2.setCell ⟨eb, 2, none⟩ (Str (rtext (rtext s1 mostN).2 mostN).1)) := ⟨_, rfl⟩
          have CY2 : Hid (Bf w Y2 p ((rtext (rtext s1 mostN).2 mostN).2) l a c eb (⟨kd, (rtext s1 mostN).1, (rtext (rtext s1 mostN).2 mostN).1, [], [], 0, 0⟩)) := Lib.hid (B2.out.put (by rw [hW]; exact ((Step.refl [eb] X2).setCell (.inl (by simp)) _)) (by rw [hW]; have hq := (B2.out.2.1.set 2 (Str (rtext (rtext s1 mostN).2 mostN).1)); simpa [dac] using hq))
          rw [← hW]
          clear hW v0 v1 v2 v3 v4 v5 v6 vl vf0 vf1 vf2 vf3 vf4 vf5 vf6
          have vc := (CY2.out.2.1).cell
          have v0 := vc 0
          have v1 := vc 1
          have v2 := vc 2
          have v3 := vc 3
          have v4 := vc 4
          have v5 := vc 5
          have v6 := vc 6
          clear vc
          simp only [dac, List.getElem?_toArray, List.getElem?_cons_zero, List.getElem?_cons_succ] at v0 v1 v2 v3 v4 v5 v6
          have vl := (CY2.out.2.1).lt
          have vfz := (CY2.out.2.1).frozen
          have vf0 := vfz 0
          have vf1 := vfz 1
          have vf2 := vfz 2
          have vf3 := vfz 3
          have vf4 := vfz 4
          have vf5 := vfz 5
          have vf6 := vfz 6
          clear vfz
          go_wp2_with fail
          refine (bf_upto CY2.out mostN).mono ?_
          rintro e X3 ⟨rfl, t⟩
          have B3 := Lib.hid t
          clear t CY2 v0 v1 v2 v3 v4 v5 v6 vl vf0 vf1 vf2 vf3 vf4 vf5 vf6
          have vc := (B3.out.2.1).cell
          have v0 := vc 0
          have v1 := vc 1
          have v2 := vc 2
          have v3 := vc 3
          have v4 := vc 4
          have v5 := vc 5
          have v6 := vc 6
          clear vc
          simp only [dac, List.getElem?_toArray, List.getElem?_cons_zero, List.getElem?_cons_succ] at v0 v1 v2 v3 v4 v5 v6
          have vl := (B3.out.2.1).lt
          have vfz := (B3.out.2.1).frozen
          have vf0 := vfz 0
          have vf1 := vfz 1
          have vf2 := vfz 2
          have vf3 := vfz 3
          have vf4 := vfz 4
          have vf5 := vfz 5
          have vf6 := vfz 6
          clear vfz
          go_upto_region 17 with fail
          obtain ⟨Y3, hW⟩ : ∃ W, W = (X3.setCell ⟨eb, 5, none⟩ (.int .i64 (upto (rtext (rtext s1 mostN).2 mostN).2 mostN).1)) := ⟨_, rfl⟩
          have CY3 : Hid (Bf w Y3 p ((upto (rtext (rtext s1 mostN).2 mostN).2 mostN).2) l a c eb (⟨kd, (rtext s1 mostN).1, (rtext (rtext s1 mostN).2 mostN).1, [], [], (upto (rtext (rtext s1 mostN).2 mostN).2 mostN).1, 0⟩)) := Lib.hid (B3.out.put (by rw [hW]; exact ((Step.refl [eb] X3).setCell (.inl (by simp)) _)) (by rw [hW]; have hq := (B3.out.2.1.set 5 (.int .i64 (upto (rtext (rtext s1 mostN).2 mostN).2 mostN).1)); simpa [dac] using hq))
          rw [← hW]
          clear hW v0 v1 v2 v3 v4 v5 v6 vl vf0 vf1 vf2 vf3 vf4 vf5 vf6
          go_wp2_with fail
          refine (bf_upto CY3.out mostN).mono ?_
          rintro e X4 ⟨rfl, t⟩
          have B4 := Lib.hid t
          clear t CY3 B3
          have vc := (B4.out.2.1).cell
          have v0 := vc 0
          have v1 := vc 1
          have v2 := vc 2
          have v3 := vc 3
          have v4 := vc 4
          have v5 := vc 5
          have v6 := vc 6
          clear vc
          simp only [dac, List.getElem?_toArray, List.getElem?_cons_zero, List.getElem?_cons_succ] at v0 v1 v2 v3 v4 v5 v6
          have vl := (B4.out.2.1).lt
          have vfz := (B4.out.2.1).frozen
          have vf0 := vfz 0
          have vf1 := vfz 1
          have vf2 := vfz 2
          have vf3 := vfz 3
          have vf4 := vfz 4
          have vf5 := vfz 5
          have vf6 := vfz 6
          clear vfz
          go_upto_region 18 with fail
          obtain ⟨Y4, hW⟩ : ∃ W, W = (X4.setCell ⟨eb, 6, none⟩ (.int .i64 (upto (upto (rtext (rtext s1 mostN).2 mostN).2 mostN).2 mostN).1)) := ⟨_, rfl⟩
          have CY4 : Hid (Bf w Y4 p ((upto (upto (rtext (rtext s1 mostN).2 mostN).2 mostN).2 mostN).2) l a c eb (⟨kd, (rtext s1 mostN).1, (rtext (rtext s1 mostN).2 mostN).1, [], [], (upto (rtext (rtext s1 mostN).2 mostN).2 mostN).1, (upto (upto (rtext (rtext s1 mostN).2 mostN).2 mostN).2 mostN).1⟩)) := Lib.hid (B4.out.put (by rw [hW]; exact ((Step.refl [eb] X4).setCell (.inl (by simp)) _)) (by rw [hW]; have hq := (B4.out.2.1.set 6 (.int .i64 (upto (upto (rtext (rtext s1 mostN).2 mostN).2 mostN).2 mostN).1)); simpa [dac] using hq))
          rw [← hW]
          clear hW v0 v1 v2 v3 v4 v5 v6 vl vf0 vf1 vf2 vf3 vf4 vf5 vf6
          have GE : Hid (Bf w Y4 p (actR mostN st1).2 l a c eb (actR mostN st1).1) := Lib.hid (by rw [show actR mostN st1 = (⟨kd, (rtext s1 mostN).1, (rtext (rtext s1 mostN).2 mostN).1, [], [], (upto (rtext (rtext s1 mostN).2 mostN).2 mostN).1, (upto (upto (rtext (rtext s1 mostN).2 mostN).2 mostN).2 mostN).1⟩, (upto (upto (rtext (rtext s1 mostN).2 mostN).2 mostN).2 mostN).2) from HA.out]; exact CY4.out)
          obtain ⟨d, hd⟩ : ∃ d, d = (actR mostN st1).1 := ⟨_, rfl⟩
          obtain ⟨s2, hs2⟩ : ∃ s2, s2 = (actR mostN st1).2 := ⟨_, rfl⟩
          have HSt2 : Hid (actsF (N - (k + 1)) (l ++ [d]) s2 = R) := Lib.hid (by have := HSt.out; rw [show N - k = N - (k + 1) + 1 by omega, actsF, if_neg (by rw [HBF.out]; simp), ← hd, ← hs2] at this; exact this)
          have HLS : Hid (s2 = rfail ∨ s2.s.length < st1.s.length) := Lib.hid (by rw [hs2]; exact actR_less st1 mostN)
          have HDK : Hid (d.kind = kd) := Lib.hid (by rw [hd, show actR mostN st1 = _ from HA.out])
          rw [← hd, ← hs2] at GE
          clear hd hs2 CY4
          have m0 : (d.kind == 0) = false := by rw [HDK.out]; exact k0
          have m1 : (d.kind == 1) = true := by rw [HDK.out]; exact k1
          have m2 : (d.kind == 2) = false := by rw [HDK.out]; exact k2
          have m3 : (d.kind == 3) = false := by rw [HDK.out]; exact k3
          have vc := (GE.out.2.1).cell
          have v0 := vc 0
          have v1 := vc 1
          have v2 := vc 2
          have v3 := vc 3
          have v4 := vc 4
          have v5 := vc 5
          have v6 := vc 6
          clear vc
          simp only [dac, List.getElem?_toArray, List.getElem?_cons_zero, List.getElem?_cons_succ] at v0 v1 v2 v3 v4 v5 v6
          have vl := (GE.out.2.1).lt
          have vfz := (GE.out.2.1).frozen
          have vf0 := vfz 0
          have vf1 := vfz 1
          have vf2 := vfz 2
          have vf3 := vfz 3
          have vf4 := vfz 4
          have vf5 := vfz 5
          have vf6 := vfz 6
          clear vfz
          go_upto_region 18 with fail
          clear v0 v1 v2 v3 v4 v5 v6 vl vf0 vf1 vf2 vf3 vf4 vf5 vf6
          obtain ⟨nb, hnb⟩ : ∃ nb, nb = Y4.heap.size := ⟨_, rfl⟩
          obtain ⟨U, hU⟩ : ∃ U, U = Y4.alloc (.cells (dac d).toArray 80) := ⟨_, rfl⟩
          have HRW : Hid (Row U 7 a l.length c (dacs l) ∧ Rd U 7 (some ⟨nb, 0, none⟩) 1 (dacs [d]) ∧ Step [] [] Y4 U) := Lib.hid (by rw [hU, hnb]; exact ⟨GE.out.1.2.1.alloc _, rd_blk' (xs := dacs [d]) (by simpa [dacs] using Blk.new Y4 80 (dac d).toArray) 7 1 rfl, (Step.refl [] _).alloc _⟩)
          have HNB := Lib.hid hnb
          have HU := Lib.hid hU
          clear hnb hU
          have vc := (GE.out.2.1).cell
          have v0 := vc 0
          have v1 := vc 1
          have v2 := vc 2
          have v3 := vc 3
          have v4 := vc 4
          have v5 := vc 5
          have v6 := vc 6
          clear vc
          simp only [dac, List.getElem?_toArray, List.getElem?_cons_zero, List.getElem?_cons_succ] at v0 v1 v2 v3 v4 v5 v6
          have vl := (GE.out.2.1).lt
          have vfz := (GE.out.2.1).frozen
          have vf0 := vfz 0
          have vf1 := vfz 1
          have vf2 := vfz 2
          have vf3 := vfz 3
          have vf4 := vfz 4
          have vf5 := vfz 5
          have vf6 := vfz 6
          clear vfz
          go_wp2_with (at_builtin; rw [show Y4.heap.size = nb from HNB.out.symm, show Y4.alloc (.cells #[.int .i64 d.kind, .string ⟨d.fr.toArray⟩, .string ⟨d.to_.toArray⟩, .string ⟨d.key.toArray⟩, .string ⟨d.val.toArray⟩, .int .i64 d.rev, .int .i64 d.most] 80) = U from HU.out.symm]; refine wpList_append_row rfl (.tmp 68) (.tmp 70) 27 27 rfl 80 i0 _ 7 88 Try.underlying27 HI.out.1 HI.out.2.1 HI.out.2.2.1 HI.out.2.2.2 rfl rfl HRW.out.1 rfl (Src.rd 27 80 Try.underlying27 HRW.out.2.1 (dacs_one _)) (by unfold maxLen; omega) (by omega) (by omega) ?_; intro a9 c9 w9 hr9 st9; have H9 : Hid (Af w w9 p s2 (l ++ [d]) a9 c9) := Lib.hid (GE.out.grow HRW.out.2.2 st9 hr9); clear hr9 st9 v0 v1 v2 v3 v4 v5 v6 vl vf0 vf1 vf2 vf3 vf4 vf5 vf6)
          go_wp2_with fail
          go_roundw
          case rel => exact ⟨k + 1, l ++ [d], a9, c9, s2, by omega, by simp; have := HLS.out; omega, by simp; intro hb; rcases HLS.out with q | q; (rw [q] at hb; simp [rfail] at hb); omega, by go_num, by simp [List.length_append], Lib.hid ⟨H9.out, HSt2.out⟩⟩
          case measure => simp [intOf]; omega
        · by_cases hk : kd = 2
          · skip
            have HA : Hid (actR mostN st1 = (⟨kd, [], [], (rtext s1 mostN).1, (rtext (rtext s1 mostN).2 mostN).1, 0, 0⟩, (rtext (rtext s1 mostN).2 mostN).2)) := Lib.hid (by rw [HA0.out]; rw [if_neg (by omega), if_pos hk])
            clear HA0
            have k0 : (kd == 0) = false := by simp [hk]
            have k1 : (kd == 1) = false := by simp [hk]
            have k2 : (kd == 2) = true := by simp [hk]
            have k3 : (kd == 3) = false := by simp [hk]
            have HKD := Lib.hid hk
            clear hk
            have vc := (B0.out.2.1).cell
            have v0 := vc 0
            have v1 := vc 1
            have v2 := vc 2
            have v3 := vc 3
            have v4 := vc 4
            have v5 := vc 5
            have v6 := vc 6
            clear vc
            simp only [dac, List.getElem?_toArray, List.getElem?_cons_zero, List.getElem?_cons_succ] at v0 v1 v2 v3 v4 v5 v6
            have vl := (B0.out.2.1).lt
            have vfz := (B0.out.2.1).frozen
            have vf0 := vfz 0
            have vf1 := vfz 1
            have vf2 := vfz 2
            have vf3 := vfz 3
            have vf4 := vfz 4
            have vf5 := vfz 5
            have vf6 := vfz 6
            clear vfz
            go_wp2_with fail
            refine (bf_text B0.out mostN).mono ?_
            rintro e X1 ⟨rfl, t⟩
            have B1 := Lib.hid t
            clear t v0 v1 v2 v3 v4 v5 v6 vl vf0 vf1 vf2 vf3 vf4 vf5 vf6
            have vc := (B1.out.2.1).cell
            have v0 := vc 0
            have v1 := vc 1
            have v2 := vc 2
            have v3 := vc 3
            have v4 := vc 4
            have v5 := vc 5
            have v6 := vc 6
            clear vc
            simp only [dac, List.getElem?_toArray, List.getElem?_cons_zero, List.getElem?_cons_succ] at v0 v1 v2 v3 v4 v5 v6
            have vl := (B1.out.2.1).lt
            have vfz := (B1.out.2.1).frozen
            have vf0 := vfz 0
            have vf1 := vfz 1
            have vf2 := vfz 2
            have vf3 := vfz 3
            have vf4 := vfz 4
            have vf5 := vfz 5
            have vf6 := vfz 6
            clear vfz
            go_upto_region 11 with fail
            obtain ⟨Y1, hW⟩ : ∃ W, W = (X1.setCell ⟨eb, 3, none⟩ (Str (rtext s1 mostN).1)) := ⟨_, rfl⟩
            have CY1 : Hid (Bf w Y1 p ((rtext s1 mostN).2) l a c eb (⟨kd, [], [], (rtext s1 mostN).1, [], 0, 0⟩)) := Lib.hid (B1.out.put (by rw [hW]; exact ((Step.refl [eb] X1).setCell (.inl (by simp)) _)) (by rw [hW]; have hq := (B1.out.2.1.set 3 (Str (rtext s1 mostN).1)); simpa [dac] using hq))
            rw [← hW]
            clear hW v0 v1 v2 v3 v4 v5 v6 vl vf0 vf1 vf2 vf3 vf4 vf5 vf6
            go_wp2_with fail
            refine (bf_text CY1.out mostN).mono ?_
            rintro e X2 ⟨rfl, t⟩
            have B2 := Lib.hid t
            clear t CY1 B1
            have vc := (B2.out.2.1).cell
            have v0 := vc 0
            have v1 := vc 1
            have v2 := vc 2
            have v3 := vc 3
            have v4 := vc 4
            have v5 := vc 5
            have v6 := vc 6
            clear vc
            simp only [dac, List.getElem?_toArray, List.getElem?_cons_zero, List.getElem?_cons_succ] at v0 v1 v2 v3 v4 v5 v6
            have vl := (B2.out.2.1).lt
            have vfz := (B2.out.2.1).frozen
            have vf0 := vfz 0
            have vf1 := vfz 1
            have vf2 := vfz 2
            have vf3 := vfz 3
            have vf4 := vfz 4
            have vf5 := vfz 5
            have vf6 := vfz 6
            clear vfz
            go_upto_region 12 with fail
            obtain ⟨Y2, hW⟩ : ∃ W, W = (X2.setCell ⟨eb, 4, none⟩ (Str (rtext (rtext s1 mostN).2 mostN).1)) := ⟨_, rfl⟩
            have CY2 : Hid (Bf w Y2 p ((rtext (rtext s1 mostN).2 mostN).2) l a c eb (⟨kd, [], [], (rtext s1 mostN).1, (rtext (rtext s1 mostN).2 mostN).1, 0, 0⟩)) := Lib.hid (B2.out.put (by rw [hW]; exact ((Step.refl [eb] X2).setCell (.inl (by simp)) _)) (by rw [hW]; have hq := (B2.out.2.1.set 4 (Str (rtext (rtext s1 mostN).2 mostN).1)); simpa [dac] using hq))
            rw [← hW]
            clear hW v0 v1 v2 v3 v4 v5 v6 vl vf0 vf1 vf2 vf3 vf4 vf5 vf6
            have GE : Hid (Bf w Y2 p (actR mostN st1).2 l a c eb (actR mostN st1).1) := Lib.hid (by rw [show actR mostN st1 = (⟨kd, [], [], (rtext s1 mostN).1, (rtext (rtext s1 mostN).2 mostN).1, 0, 0⟩, (rtext (rtext s1 mostN).2 mostN).2) from HA.out]; exact CY2.out)
            obtain ⟨d, hd⟩ : ∃ d, d = (actR mostN st1).1 := ⟨_, rfl⟩
            obtain ⟨s2, hs2⟩ : ∃ s2, s2 = (actR mostN st1).2 := ⟨_, rfl⟩
            have HSt2 : Hid (actsF (N - (k + 1)) (l ++ [d]) s2 = R) := Lib.hid (by have := HSt.out; rw [show N - k = N - (k + 1) + 1 by omega, actsF, if_neg (by rw [HBF.out]; simp), ← hd, ← hs2] at this; exact this)
            have HLS : Hid (s2 = rfail ∨ s2.s.length < st1.s.length) := Lib.hid (by rw [hs2]; exact actR_less st1 mostN)
            have HDK : Hid (d.kind = kd) := Lib.hid (by rw [hd, show actR mostN st1 = _ from HA.out])
            rw [← hd, ← hs2] at GE
            clear hd hs2 CY2
            have m0 : (d.kind == 0) = false := by rw [HDK.out]; exact k0
            have m1 : (d.kind == 1) = false := by rw [HDK.out]; exact k1
            have m2 : (d.kind == 2) = true := by rw [HDK.out]; exact k2
            have m3 : (d.kind == 3) = false := by rw [HDK.out]; exact k3
            have vc := (GE.out.2.1).cell
            have v0 := vc 0
            have v1 := vc 1
            have v2 := vc 2
            have v3 := vc 3
            have v4 := vc 4
            have v5 := vc 5
            have v6 := vc 6
            clear vc
            simp only [dac, List.getElem?_toArray, List.getElem?_cons_zero, List.getElem?_cons_succ] at v0 v1 v2 v3 v4 v5 v6
            have vl := (GE.out.2.1).lt
            have vfz := (GE.out.2.1).frozen
            have vf0 := vfz 0
            have vf1 := vfz 1
            have vf2 := vfz 2
            have vf3 := vfz 3
            have vf4 := vfz 4
            have vf5 := vfz 5
            have vf6 := vfz 6
            clear vfz
            go_upto_region 18 with fail
            clear v0 v1 v2 v3 v4 v5 v6 vl vf0 vf1 vf2 vf3 vf4 vf5 vf6
            obtain ⟨nb, hnb⟩ : ∃ nb, nb = Y2.heap.size := ⟨_, rfl⟩
            obtain ⟨U, hU⟩ : ∃ U, U = Y2.alloc (.cells (dac d).toArray 80) := ⟨_, rfl⟩
            have HRW : Hid (Row U 7 a l.length c (dacs l) ∧ Rd U 7 (some ⟨nb, 0, none⟩) 1 (dacs [d]) ∧ Step [] [] Y2 U) := Lib.hid (by rw [hU, hnb]; exact ⟨GE.out.1.2.1.alloc _, rd_blk' (xs := dacs [d]) (by simpa [dacs] using Blk.new Y2 80 (dac d).toArray) 7 1 rfl, (Step.refl [] _).alloc _⟩)
            have HNB := Lib.hid hnb
            have HU := Lib.hid hU
            clear hnb hU
            have vc := (GE.out.2.1).cell
            have v0 := vc 0
            have v1 := vc 1
            have v2 := vc 2
            have v3 := vc 3
            have v4 := vc 4
            have v5 := vc 5
            have v6 := vc 6
            clear vc
            simp only [dac, List.getElem?_toArray, List.getElem?_cons_zero, List.getElem?_cons_succ] at v0 v1 v2 v3 v4 v5 v6
            have vl := (GE.out.2.1).lt
            have vfz := (GE.out.2.1).frozen
            have vf0 := vfz 0
            have vf1 := vfz 1
            have vf2 := vfz 2
            have vf3 := vfz 3
            have vf4 := vfz 4
            have vf5 := vfz 5
            have vf6 := vfz 6
            clear vfz
            go_wp2_with (at_builtin; rw [show Y2.heap.size = nb from HNB.out.symm, show Y2.alloc (.cells #[.int .i64 d.kind, .string ⟨d.fr.toArray⟩, .string ⟨d.to_.toArray⟩, .string ⟨d.key.toArray⟩, .string ⟨d.val.toArray⟩, .int .i64 d.rev, .int .i64 d.most] 80) = U from HU.out.symm]; refine wpList_append_row rfl (.tmp 68) (.tmp 70) 27 27 rfl 80 i0 _ 7 88 Try.underlying27 HI.out.1 HI.out.2.1 HI.out.2.2.1 HI.out.2.2.2 rfl rfl HRW.out.1 rfl (Src.rd 27 80 Try.underlying27 HRW.out.2.1 (dacs_one _)) (by unfold maxLen; omega) (by omega) (by omega) ?_; intro a9 c9 w9 hr9 st9; have H9 : Hid (Af w w9 p s2 (l ++ [d]) a9 c9) := Lib.hid (GE.out.grow HRW.out.2.2 st9 hr9); clear hr9 st9 v0 v1 v2 v3 v4 v5 v6 vl vf0 vf1 vf2 vf3 vf4 vf5 vf6)
            go_wp2_with fail
            go_roundw
            case rel => exact ⟨k + 1, l ++ [d], a9, c9, s2, by omega, by simp; have := HLS.out; omega, by simp; intro hb; rcases HLS.out with q | q; (rw [q] at hb; simp [rfail] at hb); omega, by go_num, by simp [List.length_append], Lib.hid ⟨H9.out, HSt2.out⟩⟩
            case measure => simp [intOf]; omega
          · by_cases hk : kd = 3
            · skip
              have HA : Hid (actR mostN st1 = (⟨kd, (rtext s1 mostN).1, (rtext (rtext s1 mostN).2 mostN).1, [], [], 0, 0⟩, (rtext (rtext s1 mostN).2 mostN).2)) := Lib.hid (by rw [HA0.out]; rw [if_neg (by omega), if_neg (by omega), if_pos hk])
              clear HA0
              have k0 : (kd == 0) = false := by simp [hk]
              have k1 : (kd == 1) = false := by simp [hk]
              have k2 : (kd == 2) = false := by simp [hk]
              have k3 : (kd == 3) = true := by simp [hk]
              have HKD := Lib.hid hk
              clear hk
              have vc := (B0.out.2.1).cell
              have v0 := vc 0
              have v1 := vc 1
              have v2 := vc 2
              have v3 := vc 3
              have v4 := vc 4
              have v5 := vc 5
              have v6 := vc 6
              clear vc
              simp only [dac, List.getElem?_toArray, List.getElem?_cons_zero, List.getElem?_cons_succ] at v0 v1 v2 v3 v4 v5 v6
              have vl := (B0.out.2.1).lt
              have vfz := (B0.out.2.1).frozen
              have vf0 := vfz 0
              have vf1 := vfz 1
              have vf2 := vfz 2
              have vf3 := vfz 3
              have vf4 := vfz 4
              have vf5 := vfz 5
              have vf6 := vfz 6
              clear vfz
              go_wp2_with fail
              refine (bf_text B0.out mostN).mono ?_
              rintro e X1 ⟨rfl, t⟩
              have B1 := Lib.hid t
              clear t v0 v1 v2 v3 v4 v5 v6 vl vf0 vf1 vf2 vf3 vf4 vf5 vf6
              have vc := (B1.out.2.1).cell
              have v0 := vc 0
              have v1 := vc 1
              have v2 := vc 2
              have v3 := vc 3
              have v4 := vc 4
              have v5 := vc 5
              have v6 := vc 6
              clear vc
              simp only [dac, List.getElem?_toArray, List.getElem?_cons_zero, List.getElem?_cons_succ] at v0 v1 v2 v3 v4 v5 v6
              have vl := (B1.out.2.1).lt
              have vfz := (B1.out.2.1).frozen
              have vf0 := vfz 0
              have vf1 := vfz 1
              have vf2 := vfz 2
              have vf3 := vfz 3
              have vf4 := vfz 4
              have vf5 := vfz 5
              have vf6 := vfz 6
              clear vfz
              go_upto_region 14 with fail
              obtain ⟨Y1, hW⟩ : ∃ W, W = (X1.setCell ⟨eb, 1, none⟩ (Str (rtext s1 mostN).1)) := ⟨_, rfl⟩
              have CY1 : Hid (Bf w Y1 p ((rtext s1 mostN).2) l a c eb (⟨kd, (rtext s1 mostN).1, [], [], [], 0, 0⟩)) := Lib.hid (B1.out.put (by rw [hW]; exact ((Step.refl [eb] X1).setCell (.inl (by simp)) _)) (by rw [hW]; have hq := (B1.out.2.1.set 1 (Str (rtext s1 mostN).1)); simpa [dac] using hq))
              rw [← hW]
              clear hW v0 v1 v2 v3 v4 v5 v6 vl vf0 vf1 vf2 vf3 vf4 vf5 vf6
              go_wp2_with fail
              refine (bf_text CY1.out mostN).mono ?_
              rintro e X2 ⟨rfl, t⟩
              have B2 := Lib.hid t
              clear t CY1 B1
              have vc := (B2.out.2.1).cell
              have v0 := vc 0
              have v1 := vc 1
              have v2 := vc 2
              have v3 := vc 3
              have v4 := vc 4
              have v5 := vc 5
              have v6 := vc 6
              clear vc
              simp only [dac, List.getElem?_toArray, List.getElem?_cons_zero, List.getElem?_cons_succ] at v0 v1 v2 v3 v4 v5 v6
              have vl := (B2.out.2.1).lt
              have vfz := (B2.out.2.1).frozen
              have vf0 := vfz 0
              have vf1 := vfz 1
              have vf2 := vfz 2
              have vf3 := vfz 3
              have vf4 := vfz 4
              have vf5 := vfz 5
              have vf6 := vfz 6
              clear vfz
              go_upto_region 15 with fail
              obtain ⟨Y2, hW⟩ : ∃ W, W = (X2.setCell ⟨eb, 2, none⟩ (Str (rtext (rtext s1 mostN).2 mostN).1)) := ⟨_, rfl⟩
              have CY2 : Hid (Bf w Y2 p ((rtext (rtext s1 mostN).2 mostN).2) l a c eb (⟨kd, (rtext s1 mostN).1, (rtext (rtext s1 mostN).2 mostN).1, [], [], 0, 0⟩)) := Lib.hid (B2.out.put (by rw [hW]; exact ((Step.refl [eb] X2).setCell (.inl (by simp)) _)) (by rw [hW]; have hq := (B2.out.2.1.set 2 (Str (rtext (rtext s1 mostN).2 mostN).1)); simpa [dac] using hq))
              rw [← hW]
              clear hW v0 v1 v2 v3 v4 v5 v6 vl vf0 vf1 vf2 vf3 vf4 vf5 vf6
              have GE : Hid (Bf w Y2 p (actR mostN st1).2 l a c eb (actR mostN st1).1) := Lib.hid (by rw [show actR mostN st1 = (⟨kd, (rtext s1 mostN).1, (rtext (rtext s1 mostN).2 mostN).1, [], [], 0, 0⟩, (rtext (rtext s1 mostN).2 mostN).2) from HA.out]; exact CY2.out)
              obtain ⟨d, hd⟩ : ∃ d, d = (actR mostN st1).1 := ⟨_, rfl⟩
              obtain ⟨s2, hs2⟩ : ∃ s2, s2 = (actR mostN st1).2 := ⟨_, rfl⟩
              have HSt2 : Hid (actsF (N - (k + 1)) (l ++ [d]) s2 = R) := Lib.hid (by have := HSt.out; rw [show N - k = N - (k + 1) + 1 by omega, actsF, if_neg (by rw [HBF.out]; simp), ← hd, ← hs2] at this; exact this)
              have HLS : Hid (s2 = rfail ∨ s2.s.length < st1.s.length) := Lib.hid (by rw [hs2]; exact actR_less st1 mostN)
              have HDK : Hid (d.kind = kd) := Lib.hid (by rw [hd, show actR mostN st1 = _ from HA.out])
              rw [← hd, ← hs2] at GE
              clear hd hs2 CY2
              have m0 : (d.kind == 0) = false := by rw [HDK.out]; exact k0
              have m1 : (d.kind == 1) = false := by rw [HDK.out]; exact k1
              have m2 : (d.kind == 2) = false := by rw [HDK.out]; exact k2
              have m3 : (d.kind == 3) = true := by rw [HDK.out]; exact k3
              have vc := (GE.out.2.1).cell
              have v0 := vc 0
              have v1 := vc 1
              have v2 := vc 2
              have v3 := vc 3
              have v4 := vc 4
              have v5 := vc 5
              have v6 := vc 6
              clear vc
              simp only [dac, List.getElem?_toArray, List.getElem?_cons_zero, List.getElem?_cons_succ] at v0 v1 v2 v3 v4 v5 v6
              have vl := (GE.out.2.1).lt
              have vfz := (GE.out.2.1).frozen
              have vf0 := vfz 0
              have vf1 := vfz 1
              have vf2 := vfz 2
              have vf3 := vfz 3
              have vf4 := vfz 4
              have vf5 := vfz 5
              have vf6 := vfz 6
              clear vfz
              go_upto_region 18 with fail
              clear v0 v1 v2 v3 v4 v5 v6 vl vf0 vf1 vf2 vf3 vf4 vf5 vf6
              obtain ⟨nb, hnb⟩ : ∃ nb, nb = Y2.heap.size := ⟨_, rfl⟩
              obtain ⟨U, hU⟩ : ∃ U, U = Y2.alloc (.cells (dac d).toArray 80) := ⟨_, rfl⟩
              have HRW : Hid (Row U 7 a l.length c (dacs l) ∧ Rd U 7 (some ⟨nb, 0, none⟩) 1 (dacs [d]) ∧ Step [] [] Y2 U) := Lib.hid (by rw [hU, hnb]; exact ⟨GE.out.1.2.1.alloc _, rd_blk' (xs := dacs [d]) (by simpa [dacs] using Blk.new Y2 80 (dac d).toArray) 7 1 rfl, (Step.refl [] _).alloc _⟩)
              have HNB := Lib.hid hnb
              have HU := Lib.hid hU
              clear hnb hU
              have vc := (GE.out.2.1).cell
              have v0 := vc 0
              have v1 := vc 1
              have v2 := vc 2
              have v3 := vc 3
              have v4 := vc 4
              have v5 := vc 5
              have v6 := vc 6
              clear vc
              simp only [dac, List.getElem?_toArray, List.getElem?_cons_zero, List.getElem?_cons_succ] at v0 v1 v2 v3 v4 v5 v6
              have vl := (GE.out.2.1).lt
              have vfz := (GE.out.2.1).frozen
              have vf0 := vfz 0
              have vf1 := vfz 1
              have vf2 := vfz 2
              have vf3 := vfz 3
              have vf4 := vfz 4
              have vf5 := vfz 5
              have vf6 := vfz 6
              clear vfz
              go_wp2_with (at_builtin; rw [show Y2.heap.size = nb from HNB.out.symm, show Y2.alloc (.cells #[.int .i64 d.kind, .string ⟨d.fr.toArray⟩, .string ⟨d.to_.toArray⟩, .string ⟨d.key.toArray⟩, .string ⟨d.val.toArray⟩, .int .i64 d.rev, .int .i64 d.most] 80) = U from HU.out.symm]; refine wpList_append_row rfl (.tmp 68) (.tmp 70) 27 27 rfl 80 i0 _ 7 88 Try.underlying27 HI.out.1 HI.out.2.1 HI.out.2.2.1 HI.out.2.2.2 rfl rfl HRW.out.1 rfl (Src.rd 27 80 Try.underlying27 HRW.out.2.1 (dacs_one _)) (by unfold maxLen; omega) (by omega) (by omega) ?_; intro a9 c9 w9 hr9 st9; have H9 : Hid (Af w w9 p s2 (l ++ [d]) a9 c9) := Lib.hid (GE.out.grow HRW.out.2.2 st9 hr9); clear hr9 st9 v0 v1 v2 v3 v4 v5 v6 vl vf0 vf1 vf2 vf3 vf4 vf5 vf6)
              go_wp2_with fail
              go_roundw
              case rel => exact ⟨k + 1, l ++ [d], a9, c9, s2, by omega, by simp; have := HLS.out; omega, by simp; intro hb; rcases HLS.out with q | q; (rw [q] at hb; simp [rfail] at hb); omega, by go_num, by simp [List.length_append], Lib.hid ⟨H9.out, HSt2.out⟩⟩
              case measure => simp [intOf]; omega
            · have hk : kd = 0 := by omega
              have HA : Hid (actR mostN st1 = (⟨kd, [], [], [], [], 0, 0⟩, rfail)) := Lib.hid (by rw [HA0.out]; rw [if_neg (by omega), if_neg (by omega), if_neg (by omega)])
              clear HA0
              have k0 : (kd == 0) = true := by simp [hk]
              have k1 : (kd == 1) = false := by simp [hk]
              have k2 : (kd == 2) = false := by simp [hk]
              have k3 : (kd == 3) = false := by simp [hk]
              have HKD := Lib.hid hk
              clear hk
              have vc := (B0.out.2.1).cell
              have v0 := vc 0
              have v1 := vc 1
              have v2 := vc 2
              have v3 := vc 3
              have v4 := vc 4
              have v5 := vc 5
              have v6 := vc 6
              clear vc
              simp only [dac, List.getElem?_toArray, List.getElem?_cons_zero, List.getElem?_cons_succ] at v0 v1 v2 v3 v4 v5 v6
              have vl := (B0.out.2.1).lt
              have vfz := (B0.out.2.1).frozen
              have vf0 := vfz 0
              have vf1 := vfz 1
              have vf2 := vfz 2
              have vf3 := vfz 3
              have vf4 := vfz 4
              have vf5 := vfz 5
              have vf6 := vfz 6
              clear vfz
              have pc0 := (Blk.cell B0.out.1.1 0)
              have pc1 := (Blk.cell B0.out.1.1 1)
              have pl := Blk.lt B0.out.1.1
              have pf0 := Blk.frozen B0.out.1.1 0
              have pf1 := Blk.frozen B0.out.1.1 1
              simp only [List.getElem?_toArray, List.getElem?_cons_zero, List.getElem?_cons_succ] at pc0 pc1
              go_upto_region 9 with fail
              obtain ⟨X1, hX⟩ : ∃ X, X = ((X0.setCell ⟨p, 1, none⟩ (.bool true)).setCell ⟨p, 0, none⟩ (Str [])) := ⟨_, rfl⟩
              have B1 : Hid (Bf w X1 p rfail l a c eb ⟨kd, [], [], [], [], 0, 0⟩) := Lib.hid (B0.out.read (by rw [hX]; have hq := ((Blk.set B0.out.1.1 1 (.bool true)).set 0 (Str [])); simpa [Ref, rfail] using hq) (by rw [hX]; exact ((Step.refl [p] X0).setCell (.inl (by simp)) _).setCell (.inl (by simp)) _) (by simp [rfail]))
              rw [← hX]
              clear hX pc0 pc1 pl pf0 pf1 v0 v1 v2 v3 v4 v5 v6 vl vf0 vf1 vf2 vf3 vf4 vf5 vf6
              have GE : Hid (Bf w X1 p (actR mostN st1).2 l a c eb (actR mostN st1).1) := Lib.hid (by rw [show actR mostN st1 = (⟨kd, [], [], [], [], 0, 0⟩, rfail) from HA.out]; exact B1.out)
              obtain ⟨d, hd⟩ : ∃ d, d = (actR mostN st1).1 := ⟨_, rfl⟩
              obtain ⟨s2, hs2⟩ : ∃ s2, s2 = (actR mostN st1).2 := ⟨_, rfl⟩
              have HSt2 : Hid (actsF (N - (k + 1)) (l ++ [d]) s2 = R) := Lib.hid (by have := HSt.out; rw [show N - k = N - (k + 1) + 1 by omega, actsF, if_neg (by rw [HBF.out]; simp), ← hd, ← hs2] at this; exact this)
              have HLS : Hid (s2 = rfail ∨ s2.s.length < st1.s.length) := Lib.hid (by rw [hs2]; exact actR_less st1 mostN)
              have HDK : Hid (d.kind = kd) := Lib.hid (by rw [hd, show actR mostN st1 = _ from HA.out])
              rw [← hd, ← hs2] at GE
              clear hd hs2 B1
              have m0 : (d.kind == 0) = true := by rw [HDK.out]; exact k0
              have m1 : (d.kind == 1) = false := by rw [HDK.out]; exact k1
              have m2 : (d.kind == 2) = false := by rw [HDK.out]; exact k2
              have m3 : (d.kind == 3) = false := by rw [HDK.out]; exact k3
              have vc := (GE.out.2.1).cell
              have v0 := vc 0
              have v1 := vc 1
              have v2 := vc 2
              have v3 := vc 3
              have v4 := vc 4
              have v5 := vc 5
              have v6 := vc 6
              clear vc
              simp only [dac, List.getElem?_toArray, List.getElem?_cons_zero, List.getElem?_cons_succ] at v0 v1 v2 v3 v4 v5 v6
              have vl := (GE.out.2.1).lt
              have vfz := (GE.out.2.1).frozen
              have vf0 := vfz 0
              have vf1 := vfz 1
              have vf2 := vfz 2
              have vf3 := vfz 3
              have vf4 := vfz 4
              have vf5 := vfz 5
              have vf6 := vfz 6
              clear vfz
              go_upto_region 18 with fail
              clear v0 v1 v2 v3 v4 v5 v6 vl vf0 vf1 vf2 vf3 vf4 vf5 vf6
              obtain ⟨nb, hnb⟩ : ∃ nb, nb = X1.heap.size := ⟨_, rfl⟩
              obtain ⟨U, hU⟩ : ∃ U, U = X1.alloc (.cells (dac d).toArray 80) := ⟨_, rfl⟩
              have HRW : Hid (Row U 7 a l.length c (dacs l) ∧ Rd U 7 (some ⟨nb, 0, none⟩) 1 (dacs [d]) ∧ Step [] [] X1 U) := Lib.hid (by rw [hU, hnb]; exact ⟨GE.out.1.2.1.alloc _, rd_blk' (xs := dacs [d]) (by simpa [dacs] using Blk.new X1 80 (dac d).toArray) 7 1 rfl, (Step.refl [] _).alloc _⟩)
              have HNB := Lib.hid hnb
              have HU := Lib.hid hU
              clear hnb hU
              have vc := (GE.out.2.1).cell
              have v0 := vc 0
              have v1 := vc 1
              have v2 := vc 2
              have v3 := vc 3
              have v4 := vc 4
              have v5 := vc 5
              have v6 := vc 6
              clear vc
              simp only [dac, List.getElem?_toArray, List.getElem?_cons_zero, List.getElem?_cons_succ] at v0 v1 v2 v3 v4 v5 v6
              have vl := (GE.out.2.1).lt
              have vfz := (GE.out.2.1).frozen
              have vf0 := vfz 0
              have vf1 := vfz 1
              have vf2 := vfz 2
              have vf3 := vfz 3
              have vf4 := vfz 4
              have vf5 := vfz 5
              have vf6 := vfz 6
              clear vfz
              go_wp2_with (at_builtin; rw [show X1.heap.size = nb from HNB.out.symm, show X1.alloc (.cells #[.int .i64 d.kind, .string ⟨d.fr.toArray⟩, .string ⟨d.to_.toArray⟩, .string ⟨d.key.toArray⟩, .string ⟨d.val.toArray⟩, .int .i64 d.rev, .int .i64 d.most] 80) = U from HU.out.symm]; refine wpList_append_row rfl (.tmp 68) (.tmp 70) 27 27 rfl 80 i0 _ 7 88 Try.underlying27 HI.out.1 HI.out.2.1 HI.out.2.2.1 HI.out.2.2.2 rfl rfl HRW.out.1 rfl (Src.rd 27 80 Try.underlying27 HRW.out.2.1 (dacs_one _)) (by unfold maxLen; omega) (by omega) (by omega) ?_; intro a9 c9 w9 hr9 st9; have H9 : Hid (Af w w9 p s2 (l ++ [d]) a9 c9) := Lib.hid (GE.out.grow HRW.out.2.2 st9 hr9); clear hr9 st9 v0 v1 v2 v3 v4 v5 v6 vl vf0 vf1 vf2 vf3 vf4 vf5 vf6)
              go_wp2_with fail
              go_roundw
              case rel => exact ⟨k + 1, l ++ [d], a9, c9, s2, by omega, by simp; have := HLS.out; omega, by simp; intro hb; rcases HLS.out with q | q; (rw [q] at hb; simp [rfail] at hb); omega, by go_num, by simp [List.length_append], Lib.hid ⟨H9.out, HSt2.out⟩⟩
              case measure => simp [intOf]; omega
    · obtain rfl : k = N := by omega
      have hnl : ¬ (k : Int) < k := by omega
      have HE : Hid ((l, st1) = R) := Lib.hid (by have := HW.out.2; rw [Nat.sub_self, actsF] at this; exact this)
      go_wp2_with fail
      refine bodyPost_ret (results_tmp rfl _ _ _) rfl ⟨a, c, ?_, ?_, ?_, ?_, HW.out.1.2.2.2.1⟩
      · rw [← HR.out, ← HE.out]; rfl
      · rw [← HR.out, ← HE.out]; exact HW.out.1.2.1.rd
      · rw [← HR.out, ← HE.out]; exact HW.out.1.1
      · exact HW.out.1.2.2.1.drop (by simp)
end Go.Proofs.Ytifjnpdnnfdcoaa
