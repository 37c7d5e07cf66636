/-
  What a chain's Cut does. Condition: a chain of at most 2^40 lines, n an int.
-/
import Derived.Test.YtdiacfbflbenoaaAuditH
namespace Go.Proofs.Ytdiacfbflbenoaa
open Go.RowKit
set_option linter.unusedSimpArgs false
set_option linter.unusedVariables false
set_option maxRecDepth 100000

theorem cut_nil (n : Int) (w : World) : Calls Try.prog 12 #[.pointer none, .int .i64 n] w fun e w' => e = .returned (.bool false) ∧ w = w' := by
  go_enter Try.func12, Try.ntmps12
  go_wp2_with fail
  exact bodyPost_ret (results_tmp rfl _ _ _) rfl ⟨rfl, rfl⟩

theorem Row.pre {w : World} {sz n cap : Nat} {a : Option Addr} {xs : List Value} (h : Row w sz a n cap xs) (k : Nat) (hk : k ≤ n) : Row w sz a k cap (xs.take (k * sz)) :=
  ⟨by rw [List.length_take, h.len]; exact Nat.min_eq_left (Nat.mul_le_mul_right _ hk), Nat.le_trans hk h.le, h.max, h.nil, fun ad e => by
    obtain ⟨h1, cs, h2, h3, h4⟩ := h.at_ ad e
    refine ⟨h1, cs, h2, h3, ?_⟩
    rw [← h4, List.take_take, Nat.min_eq_left (Nat.mul_le_mul_right _ hk)]⟩
theorem lncs_take (l : List Ln) (k : Nat) (hk : k ≤ l.length) : lncs (l.take k) = (lncs l).take (k * 8) := by
  have h := lncs_append (l.take k) (l.drop k)
  rw [List.take_append_drop] at h
  have hl : (lncs (l.take k)).length = k * 8 := by rw [lncs_len, List.length_take, Nat.min_eq_left hk]
  rw [h, ← hl, List.take_left]
theorem lncs_drop (l : List Ln) (k : Nat) (hk : k ≤ l.length) : lncs (l.drop k) = (lncs l).drop (k * 8) := by
  have h := lncs_append (l.take k) (l.drop k)
  rw [List.take_append_drop] at h
  have hl : (lncs (l.take k)).length = k * 8 := by rw [lncs_len, List.length_take, Nat.min_eq_left hk]
  rw [h, ← hl, List.drop_left]
def CutPost (p : Nat) (S : List Nat) (c : Ch) (n : Int) (w : World) (e : Ending) (w' : World) : Prop := ∃ S', e = .returned (.bool (canCut c n)) ∧ Chn w' p S' (cutL c n) ∧ Step S S' w w'
theorem cutL_no {c : Ch} {n : Int} (h : canCut c n = false) : cutL c n = c := by simp [cutL, h]
set_option maxHeartbeats 4000000 in
theorem cut_any (p : Nat) (S : List Nat) (c : Ch) (n : Int) (w : World) (h : Chn w p S c) (hc : ChOk c) :
    Calls Try.prog 12 #[.pointer (some ⟨p, 0, none⟩), .int .i64 n] w (CutPost p S c n w) := by
  have hC := Lib.hid (And.intro h hc)
  obtain ⟨a, cap, HCH⟩ : ∃ a cap, Hid (Blk w p 59 #[.int .i64 c.base.count, Str c.base.hash, .slice a c.ls.length cap] ∧ Row w 8 a c.ls.length cap (lncs c.ls) ∧ p ∉ blks a ∧ S = p :: blks a) := h
  have c0 := HCH.out.1.cell 0
  have c1 := HCH.out.1.cell 1
  have c2 := HCH.out.1.cell 2
  have hp := HCH.out.1.lt
  simp only [List.getElem?_toArray, List.getElem?_cons_zero, List.getElem?_cons_succ] at c0 c1 c2
  have hll := hc.len
  obtain ⟨hc1, hc2⟩ := hc.count
  clear hc
  by_cases hn : n < c.base.count
  · have HN := Lib.hid (show canCut c n = false by simp [canCut]; omega)
    have hnd : decide (n < c.base.count) = true := decide_eq_true hn
    clear hn
    go_enter Try.func12, Try.ntmps12
    go_wp2_with fail
    refine bodyPost_ret (results_tmp rfl _ _ _) rfl ⟨S, ?_, ?_, (Step.refl [] w).up S⟩
    · rw [HN.out]; rfl
    · rw [cutL_no HN.out]
      exact hC.out.1
  · have hnd : decide (n < c.base.count) = false := decide_eq_false hn
    go_enter Try.func12, Try.ntmps12
    go_wp2_with fail
    refine (headIn_any p S c w hC.out.1 hC.out.2).mono ?_
    rintro e w1 ⟨rfl, k1⟩
    have H1 : Hid (Blk w1 p 59 #[.int .i64 c.base.count, Str c.base.hash, .slice a c.ls.length cap] ∧ Row w1 8 a c.ls.length cap (lncs c.ls) ∧ p ∉ blks a ∧ S = p :: blks a ∧ Step [] [] w w1 ∧ Chn w1 p S c) :=
      ⟨HCH.out.1.step k1 (by simp), HCH.out.2.1.step k1 (by simp), HCH.out.2.2.1, HCH.out.2.2.2, k1, hC.out.1.step k1 (by simp)⟩
    clear c0 c1 c2 hp k1
    have c0 := H1.out.1.cell 0
    have c1 := H1.out.1.cell 1
    have c2 := H1.out.1.cell 2
    have hp := H1.out.1.lt
    simp only [List.getElem?_toArray, List.getElem?_cons_zero, List.getElem?_cons_succ] at c0 c1 c2
    rw [headL_count]
    obtain ⟨qh, hqh⟩ : ∃ qh, qh = (headL c.base c.ls).hash := ⟨_, rfl⟩
    rw [← hqh]
    have hfd : ∀ W : World, (Instr.field 57 (.agg #[.int .i64 (c.base.count + (c.ls.length : Int)), Str qh]) 0).run Try.prog W = .ok (.int .i64 (c.base.count + (c.ls.length : Int))) W := fun _ => by kernel_rfl
    clear hqh
    by_cases hm : c.base.count + (c.ls.length : Int) < n
    · have HN := Lib.hid (show canCut c n = false by simp [canCut]; omega)
      have hmd : decide (c.base.count + (c.ls.length : Int) < n) = true := decide_eq_true hm
      clear hm hn
      go_wp2_with fail
      refine bodyPost_ret (results_tmp rfl _ _ _) rfl ⟨S, ?_, ?_, H1.out.2.2.2.2.1.up S⟩
      · rw [HN.out]; rfl
      · rw [cutL_no HN.out]
        exact H1.out.2.2.2.2.2
    · have hmd : decide (c.base.count + (c.ls.length : Int) < n) = false := decide_eq_false hm
      have hYES := Lib.hid (show canCut c n = true by simp [canCut]; omega)
      obtain ⟨k, hk⟩ : ∃ k : Nat, n - c.base.count = k := ⟨(n - c.base.count).toNat, by omega⟩
      have HK : Hid (n - c.base.count = k ∧ k ≤ c.ls.length) := ⟨hk, by omega⟩
      have q1 : IntKind.i64.wrap (n - c.base.count) = (k : Int) := by rw [hk]; exact IntWalk.i64_in _ (by omega)
      clear hm hn hk
      have hkl := HK.out.2
      have hcap := H1.out.2.1.le
      have q2 : (k : Int) ≤ cap := by omega
      have q3 : (0 : Int) ≤ k := by omega
      have q4 : k ≤ cap := by omega
      clear hkl hcap
      go_wp2_with fail
      refine still_tail 11 (by kernel_rfl) (by kernel_rfl) ?_
      simp only [List.take_succ_cons, List.take_zero, List.drop_succ_cons, List.drop_zero]
      repeat still_step
      refine wpStill_nil ?_
      go_wp2_with fail
      have HT : Hid (Chn (w1.alloc (.cells #[.int .i64 c.base.count, Str c.base.hash, .slice a k cap] 59)).drew w1.heap.size (w1.heap.size :: blks a) ⟨c.base, c.ls.take k⟩) := by
        have hlen : (c.ls.take k).length = k := by rw [List.length_take]; exact Nat.min_eq_left HK.out.2
        refine ⟨a, cap, ?_, ?_, ?_, rfl⟩
        · rw [hlen]; exact (Blk.new w1 _ _).drew
        · rw [hlen, lncs_take _ _ HK.out.2]; exact ((H1.out.2.1.pre k HK.out.2).alloc _).drew
        · intro hg
          exact absurd (H1.out.2.1.lt _ hg) (Nat.lt_irrefl _)
      refine (headIn_any w1.heap.size (w1.heap.size :: blks a) ⟨c.base, c.ls.take k⟩ _ HT.out ⟨⟨hc1, hc2⟩, by rw [List.length_take]; have := HK.out.2; omega⟩).mono ?_
      rintro e w3 ⟨rfl, k3⟩
      obtain ⟨q, hq⟩ : ∃ q, q = headL c.base (c.ls.take k) := ⟨_, rfl⟩
      simp only [← hq]
      have k3' := (((Step.refl [] w1).alloc (.cells #[.int .i64 c.base.count, Str c.base.hash, .slice a k cap] 59)).drew).trans k3
      have H3 : Hid (Blk w3 p 59 #[.int .i64 c.base.count, Str c.base.hash, .slice a c.ls.length cap] ∧ Row w3 8 a c.ls.length cap (lncs c.ls) ∧ p ∉ blks a ∧ S = p :: blks a ∧ Step [] [] w w3 ∧ q = headL c.base (c.ls.take k)) :=
        ⟨H1.out.1.step k3' (by simp), H1.out.2.1.step k3' (by simp), H1.out.2.2.1, H1.out.2.2.2.1, H1.out.2.2.2.2.1.trans k3', hq⟩
      clear k3 k3' hq HT c0 c1 c2 hp
      have c0 := H3.out.1.cell 0
      have c1 := H3.out.1.cell 1
      have hp := H3.out.1.lt
      have f0 := H3.out.1.frozen 0
      have f1 := H3.out.1.frozen 1
      simp only [List.getElem?_toArray, List.getElem?_cons_zero, List.getElem?_cons_succ] at c0 c1
      go_upto_region 6 with fail
      obtain ⟨W, hW⟩ : ∃ W, W = (w3.setCell ⟨p, 0, none⟩ (.int .i64 q.count)).setCell ⟨p, 1, none⟩ (Str q.hash) := ⟨_, rfl⟩
      rw [← hW]
      have H4 : Hid (Blk W p 59 #[.int .i64 q.count, Str q.hash, .slice a c.ls.length cap] ∧ Row W 8 a c.ls.length cap (lncs c.ls) ∧ p ∉ blks a ∧ S = p :: blks a ∧ Step S S w W ∧ q = headL c.base (c.ls.take k)) := by
        have st : Step [p] [p] w3 W := by rw [hW]; exact ((Step.refl _ w3).setCell (.inl (by simp)) _).setCell (.inl (by simp)) _
        refine ⟨?_, ?_, H3.out.2.2.1, H3.out.2.2.2.1, ?_, H3.out.2.2.2.2.2⟩
        · rw [hW]
          have := (H3.out.1.set 0 (.int .i64 q.count)).set 1 (Str q.hash)
          simpa using this
        · exact H3.out.2.1.step st (fun g hg e => by simp at e; subst e; exact H3.out.2.2.1 hg)
        · rw [hW]
          exact ((H3.out.2.2.2.2.1.up S).setCell (.inl (by rw [H3.out.2.2.2.1]; simp)) _).setCell (.inl (by rw [H3.out.2.2.2.1]; simp)) _
      clear hW H3 c0 c1 hp f0 f1
      have c2 := H4.out.1.cell 2
      have hp := H4.out.1.lt
      simp only [List.getElem?_toArray, List.getElem?_cons_zero, List.getElem?_cons_succ] at c2
      have q5 : (k : Int) ≤ c.ls.length := by have := HK.out.2; omega
      have q6 : k ≤ c.ls.length := HK.out.2
      have q7 : (c.ls.length : Int) ≤ cap := by have := H4.out.2.1.le; omega
      have q8 : c.ls.length ≤ cap := H4.out.2.1.le
      have hlen : (c.ls.drop k).length = c.ls.length - k := List.length_drop
      have HR : Hid (Row W 8 (if cap = k then a else a.map (·.add (k * 8))) (c.ls.length - k) (cap - k) (lncs (c.ls.drop k))) := by
        have := H4.out.2.1.sub k c.ls.length HK.out.2 (Nat.le_refl _)
        rwa [← lncs_drop _ _ HK.out.2, List.take_of_length_le (by rw [lncs_len, hlen]; exact Nat.le_refl _)] at this
      have HCL : Hid (∀ a2 cap2, Row W 8 a2 (c.ls.length - k) cap2 (lncs (c.ls.drop k)) → Calls Try.prog 30 #[.slice a2 (c.ls.length - k) cap2] W (ClonePost (c.ls.drop k) W)) := by
        intro a2 cap2 h2
        have := cloneLn_any (c.ls.drop k) a2 cap2 W (by rw [hlen]; exact h2.rd) (by rw [hlen]; omega) h2.nil
        rwa [hlen] at this
      have HL := Lib.hid hlen
      clear hlen
      go_wp2_with fail
      all_goals
        refine (HCL.out _ _ (by have h9 := HR.out; split at h9 <;> first | exact h9 | (have e : cap - k = 0 := (by omega); rw [e] at h9; exact h9) | (exfalso; omega))).mono ?_
        rintro e w5 ⟨a5, cap5, rfl, g5, k5⟩
        have b5 := H4.out.1.step k5 (by simp)
        have hpa : p ∉ blks a5 := k5.notin H4.out.1.lt (by simp)
        have c5 := b5.cell 2
        have f5 := b5.frozen 2
        have p5 := b5.lt
        have H5 : Hid (Blk w5 p 59 #[.int .i64 q.count, Str q.hash, .slice a c.ls.length cap] ∧ Row w5 8 a5 (c.ls.drop k).length cap5 (lncs (c.ls.drop k)) ∧ Step S (p :: blks a5) w w5 ∧ p ∉ blks a5) := by
          refine ⟨b5, g5, ?_, hpa⟩
          have h1 := H4.out.2.2.2.2.1
          rw [H4.out.2.2.2.1] at h1 ⊢
          exact h1.trans (k5.wide (by simp) (by intro j hj; rcases List.mem_cons.1 hj with rfl | hj; exact .inl (by simp); exact .inr (.inl hj)))
        simp only [List.getElem?_toArray, List.getElem?_cons_zero, List.getElem?_cons_succ] at c5
        rw [HL.out]
        clear b5 g5 k5 hpa c2 hp
        go_wp2_with fail
        refine bodyPost_ret (results_tmp rfl _ _ _) rfl ⟨p :: blks a5, ?_, ?_, H5.out.2.2.1.setCell (.inl (by simp)) _⟩
        · rw [hYES.out]; rfl
        · have hkk : (n - c.base.count).toNat = k := by have := HK.out.1; omega
          rw [cutL, if_pos hYES.out, hkk, ← H4.out.2.2.2.2.2]
          have hs2 : ∀ v, Step [p] [p] w5 (w5.setCell ⟨p, 2, none⟩ v) := fun v => (Step.refl _ w5).setCell (.inl (by simp)) _
          refine ⟨a5, cap5, ?_, ?_, H5.out.2.2.2, rfl⟩
          · have := H5.out.1.set 2 (.slice a5 (c.ls.drop k).length cap5)
            simpa using this
          · have := H5.out.2.1.step (hs2 (.slice a5 (c.ls.drop k).length cap5)) (fun g hg e => by simp at e; subst e; exact H5.out.2.2.2 hg)
            simpa using this
end Go.Proofs.Ytdiacfbflbenoaa
